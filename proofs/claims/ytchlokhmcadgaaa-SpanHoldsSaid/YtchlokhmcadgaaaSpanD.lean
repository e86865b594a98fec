/-
  Layer 6: the walks of left and of the document's shifted. Conditions: those of each theorem.
-/
import Derived.Test.YtchlokhmcadgaaaSpanC
namespace Go.Proofs.Ytchlokhmcadgaaa
open Go.RowKit

attribute [local go_sem] uv_nonneg uv_wrap uv_add uv_sub uv_mul uv_add1 uv_sub1 uv_and uv_or uv_xor uv_andNot uv_and1 uv_not uv_notMax u64_signed uv_shr uv_shr1 uv_shl uv_shr63 uv_shl1 uv_1shl uv_tdiv uv_tdiv2 uv_tmod uv_shlMin uv_shrMin uv_div uv_mod uv_minM uv_maxM

theorem fits_nat {a : BitVec 64} {i : Nat} (h : bl a + i ≤ 64) : (a <<< i).toNat = a.toNat * 2 ^ i := by
  have h1 := shl_fits i h
  rw [BitVec.toNat_shiftLeft, Nat.shiftLeft_eq, Nat.mod_eq_of_lt h1]
theorem fits_more {a : BitVec 64} {i : Nat} (h0 : a ≠ 0#64) (h : bl a + i ≤ 64) (hs : (a <<< i).toNat < 9223372036854775808) : bl a + (i + 1) ≤ 64 := by
  have h1 := fits_nat h
  have h2 := bl_ne h0
  obtain ⟨m, hm⟩ : ∃ m, bl a = m + 1 := ⟨bl a - 1, by omega⟩
  have h3 := bl_pos (a := a) (k := m) (by omega)
  have h4 : 2 ^ (m + i) < 2 ^ 63 := by
    rw [Nat.pow_add]
    have h5 := Nat.mul_le_mul_right (2 ^ i) h3
    omega
  have h6 := (Nat.pow_lt_pow_iff_right (a := 2) (by omega)).1 h4
  omega
theorem fits_full {a : BitVec 64} {i k : Nat} (h : bl a + i ≤ 64) (hs : ¬ (a <<< i).toNat < 9223372036854775808) (hk : i < k) : a ≠ 0#64 ∧ 64 < bl a + k := by
  constructor
  · rintro rfl
    apply hs
    rw [BitVec.zero_shiftLeft]; decide
  · rcases Nat.lt_or_ge 64 (bl a + k) with h1 | h1
    · exact h1
    · exfalso
      apply hs
      rw [fits_nat h]
      have h2 := bl_lt a
      have h3 : a.toNat * 2 ^ i < 2 ^ bl a * 2 ^ i := Nat.mul_lt_mul_of_pos_right h2 (Nat.two_pow_pos i)
      rw [← Nat.pow_add] at h3
      have h4 : 2 ^ (bl a + i) ≤ 2 ^ 63 := Nat.pow_le_pow_right (by omega) (by omega)
      omega
def shfNo (ah k : BitVec 64) : Prop := ah ≠ 0#64 ∧ 64 < bl ah + k.toNat
instance (ah k : BitVec 64) : Decidable (shfNo ah k) := inferInstanceAs (Decidable (_ ∧ _))
def shfV (al ah k : BitVec 64) : BP := if shfNo ah k then (0#64, 0#64) else (al <<< k.toNat, ah <<< k.toNat)
theorem uv_2shl (x : BitVec 64) (i : Nat) : IntKind.u64.wrap (2 * uv (x <<< i)) = uv (x <<< (i + 1)) := by
  rw [← AM.shl_step, ← uv_add]; congr 1; omega

/-- two blocks of two cells each -/
theorem two (w : World) (a b : Int) :
    Ob ((w.alloc (.cells #[.int .u64 a, .int .u64 b] 26)).alloc (.cells #[.int .u64 0, .int .u64 0] 26)) w.heap.size 26 [.int .u64 a, .int .u64 b] ∧
    Ob ((w.alloc (.cells #[.int .u64 a, .int .u64 b] 26)).alloc (.cells #[.int .u64 0, .int .u64 0] 26)) (w.heap.size + 1) 26 [.int .u64 0, .int .u64 0] ∧
    Below w.heap.size w ((w.alloc (.cells #[.int .u64 a, .int .u64 b] 26)).alloc (.cells #[.int .u64 0, .int .u64 0] 26)) := by
  refine ⟨(Ob.fresh w 26 [.int .u64 a, .int .u64 b]).alloc _, ?_, below_alloc (below_alloc (Below.refl _ _) _) _⟩
  have h := Ob.fresh (w.alloc (.cells #[.int .u64 a, .int .u64 b] 26)) 26 [.int .u64 0, .int .u64 0]
  simpa using h

set_option maxRecDepth 100000 in
set_option maxHeartbeats 2000000 in
theorem left_any (w : World) (al ah bl' bh : BitVec 64) : Calls Try.prog 33 #[spVal (uv al) (uv ah), spVal (uv bl') (uv bh)] w fun e w' => e = .returned (spVal (uv (shlV al ah bl' bh).1) (uv (shlV al ah bl' bh).2)) ∧ Below w.heap.size w w' := by
  obtain ⟨V, hV⟩ : ∃ V, shlV al ah bl' bh = V := ⟨_, rfl⟩
  rw [hV]
  have HV := Lib.hid hV
  clear hV
  have HF := Lib.hid (fun w => full_any w)
  unfold spVal at HF ⊢
  by_cases h1 : bl' ≠ bh
  · have HS := Lib.hid (fun w => isone_any w (uv bl') (uv bh))
    rw [show (uv bl' == uv bh) = false by rw [uv_beq]; exact decide_eq_false h1] at HS
    unfold spVal at HS
    have HR := Lib.hid (show V = (0#64, mostB) by rw [← HV.out]; exact if_pos h1)
    clear h1
    obtain ⟨o1, o2, o3, b3⟩ := three w (uv al) (uv ah) (uv bl') (uv bh)
    have O1 := Lib.hid o1
    have O2 := Lib.hid o2
    have O3 := Lib.hid o3
    have B3 := Lib.hid b3
    clear o1 o2 o3 b3
    have hp1 : Hid (w.heap.size ≤ w.heap.size + 1) := Lib.hid (by omega)
    have hp2 : Hid (w.heap.size ≤ w.heap.size + 2) := Lib.hid (by omega)
    go_enter Try.func33, Try.ntmps33
    go_upto_region 1 with fail
    generalize ((w.alloc (.cells #[.int .u64 (uv al), .int .u64 (uv ah)] 26)).alloc (.cells #[.int .u64 (uv bl'), .int .u64 (uv bh)] 26)).alloc (.cells #[.int .u64 0, .int .u64 0] 26) = w3 at O1 O2 O3 B3 ⊢
    obtain ⟨q1, hq1⟩ : ∃ q, w.heap.size = q := ⟨_, rfl⟩
    obtain ⟨q2, hq2⟩ : ∃ q, w.heap.size + 1 = q := ⟨_, rfl⟩
    obtain ⟨q3, hq3⟩ : ∃ q, w.heap.size + 2 = q := ⟨_, rfl⟩
    rw [hq3] at O3 hp2 ⊢
    rw [hq2] at O2 hp1 ⊢
    rw [hq1] at O1 ⊢
    have hq : Hid (w.heap.size ≤ q3) := Lib.hid (by omega)
    clear hq1 hq2 hq3 hp1 hp2
    have a0 : w3.cell? ⟨q1, 0, none⟩ = some (.int .u64 (uv al)) := O1.out.cell 0
    have a1 : w3.cell? ⟨q1, 1, none⟩ = some (.int .u64 (uv ah)) := O1.out.cell 1
    have c0 : w3.cell? ⟨q2, 0, none⟩ = some (.int .u64 (uv bl')) := O2.out.cell 0
    have c1 : w3.cell? ⟨q2, 1, none⟩ = some (.int .u64 (uv bh)) := O2.out.cell 1
    have r0 : w3.cell? ⟨q3, 0, none⟩ = some (.int .u64 0) := O3.out.cell 0
    have r1 : w3.cell? ⟨q3, 1, none⟩ = some (.int .u64 0) := O3.out.cell 1
    have z0 : ∀ i, w3.frozen? ⟨q3, i, none⟩ = false := O3.out.frozen
    refine wp_region_held_drew (S := (fun w' => w'.cell? ⟨q1, 1, none⟩ = some (.int .u64 (uv ah)) ∧ w'.cell? ⟨q2, 0, none⟩ = some (.int .u64 (uv bl')) ∧ w'.cell? ⟨q2, 1, none⟩ = some (.int .u64 (uv bh)))) (by kernel_rfl) ⟨a1, c0, c1⟩ (fun hHeld => ?_)
    refine wpAnyH_take (i := 0) (v := ?_) rfl (by kernel_rfl) (by kernel_rfl) (by kernel_rfl) (fun _ _ _ h => h) (Or.inl ⟨by kernel_rfl, ?_⟩) (by assumption) ?_
    rotate_left
    · (intro w' hSw; (try dsimp only at hSw); go_simp; try with_reducible rfl)
    try simp only [Act.put, List.getElem_toArray, List.getElem_cons_succ, List.getElem_cons_zero]
    refine wpAnyH_ready (rs := [1]) (by kernel_rfl) (by simp) ?_
    refine AllReadyH.cons rfl (fun K' hK => ?_) AllReadyH.nil
    go_simp
    refine (HS.out _).mono ?_
    rintro e w4 ⟨rfl, bb⟩
    have bx : Below w3.heap.size w3 w4 := (below_drewN (Below.refl w3.heap.size w3) 1).trans bb
    have P1 := Lib.hid (O1.out.below bx O1.out.lt)
    have P2 := Lib.hid (O2.out.below bx O2.out.lt)
    have P3 := Lib.hid (O3.out.below bx O3.out.lt)
    have PB := Lib.hid (B3.out.trans (bx.mono B3.out.size))
    clear bx bb O1 O2 O3 B3 a0 a1 c0 c1 r0 r1 z0
    have O1 := Lib.hid P1.out
    have O2 := Lib.hid P2.out
    have O3 := Lib.hid P3.out
    have B3 := Lib.hid PB.out
    clear P1 P2 P3 PB
    have a0 : w4.cell? ⟨q1, 0, none⟩ = some (.int .u64 (uv al)) := O1.out.cell 0
    have a1 : w4.cell? ⟨q1, 1, none⟩ = some (.int .u64 (uv ah)) := O1.out.cell 1
    have c0 : w4.cell? ⟨q2, 0, none⟩ = some (.int .u64 (uv bl')) := O2.out.cell 0
    have c1 : w4.cell? ⟨q2, 1, none⟩ = some (.int .u64 (uv bh)) := O2.out.cell 1
    have r0 : w4.cell? ⟨q3, 0, none⟩ = some (.int .u64 0) := O3.out.cell 0
    have r1 : w4.cell? ⟨q3, 1, none⟩ = some (.int .u64 0) := O3.out.cell 1
    have z0 : ∀ i, w4.frozen? ⟨q3, i, none⟩ = false := O3.out.frozen
    go_wp2_with fail
    refine hK.out _ _ ⟨a1, c0, c1⟩ (fun hHeld => ?_)
    clear hK K'
    try simp only [Act.put, List.getElem_toArray, List.getElem_cons_succ, List.getElem_cons_zero]
    refine wpAnyH_take (i := 2) (v := ?_) rfl (by kernel_rfl) (by kernel_rfl) (by kernel_rfl) (fun _ _ _ h => h) (Or.inl ⟨by kernel_rfl, ?_⟩) (by assumption) ?_
    rotate_left
    · (intro w' hSw; (try dsimp only at hSw); go_simp; try with_reducible rfl)
    try simp only [Act.put, List.getElem_toArray, List.getElem_cons_succ, List.getElem_cons_zero]
    refine wpAnyH_take (i := 3) (v := ?_) rfl (by kernel_rfl) (by kernel_rfl) (by kernel_rfl) (fun _ _ _ h => h) (Or.inl ⟨by kernel_rfl, ?_⟩) (by assumption) ?_
    rotate_left
    · (intro w' hSw; (try dsimp only at hSw); go_simp; try with_reducible rfl)
    try simp only [Act.put, List.getElem_toArray, List.getElem_cons_succ, List.getElem_cons_zero]
    refine wpAnyH_take (i := 4) (v := undef) rfl (by kernel_rfl) (by kernel_rfl) (by kernel_rfl) (fun _ _ _ h => h) (Or.inr ⟨by kernel_rfl, rfl⟩) (by assumption) ?_
    try simp only [Act.put, List.getElem_toArray, List.getElem_cons_succ, List.getElem_cons_zero]
    refine wpAnyH_take (i := 5) (v := undef) rfl (by kernel_rfl) (by kernel_rfl) (by kernel_rfl) (fun _ _ _ h => h) (Or.inr ⟨by kernel_rfl, rfl⟩) (by assumption) ?_
    try simp only [Act.put, List.getElem_toArray, List.getElem_cons_succ, List.getElem_cons_zero]
    refine wpAnyH_take (i := 6) (v := undef) rfl (by kernel_rfl) (by kernel_rfl) (by kernel_rfl) (fun _ _ _ h => h) (Or.inr ⟨by kernel_rfl, rfl⟩) (by assumption) ?_
    try simp only [Act.put, List.getElem_toArray, List.getElem_cons_succ, List.getElem_cons_zero]
    refine wpAnyH_take (i := 7) (v := undef) rfl (by kernel_rfl) (by kernel_rfl) (by kernel_rfl) (fun _ _ _ h => h) (Or.inr ⟨by kernel_rfl, rfl⟩) (by assumption) ?_
    try simp only [Act.put, List.getElem_toArray, List.getElem_cons_succ, List.getElem_cons_zero]
    refine wpAnyH_take (i := 8) (v := undef) rfl (by kernel_rfl) (by kernel_rfl) (by kernel_rfl) (fun _ _ _ h => h) (Or.inr ⟨by kernel_rfl, rfl⟩) (by assumption) ?_
    try simp only [Act.put, List.getElem_toArray, List.getElem_cons_succ, List.getElem_cons_zero]
    refine wpAnyH_take (i := 9) (v := undef) rfl (by kernel_rfl) (by kernel_rfl) (by kernel_rfl) (fun _ _ _ h => h) (Or.inr ⟨by kernel_rfl, rfl⟩) (by assumption) ?_
    try simp only [Act.put, List.getElem_toArray, List.getElem_cons_succ, List.getElem_cons_zero]
    refine wpAnyH_take (i := 10) (v := undef) rfl (by kernel_rfl) (by kernel_rfl) (by kernel_rfl) (fun _ _ _ h => h) (Or.inr ⟨by kernel_rfl, rfl⟩) (by assumption) ?_
    try simp only [Act.put, List.getElem_toArray, List.getElem_cons_succ, List.getElem_cons_zero]
    refine wpAnyH_take (i := 11) (v := undef) rfl (by kernel_rfl) (by kernel_rfl) (by kernel_rfl) (fun _ _ _ h => h) (Or.inr ⟨by kernel_rfl, rfl⟩) (by assumption) ?_
    try simp only [Act.put, List.getElem_toArray, List.getElem_cons_succ, List.getElem_cons_zero]
    refine wpAnyH_take (i := 12) (v := undef) rfl (by kernel_rfl) (by kernel_rfl) (by kernel_rfl) (fun _ _ _ h => h) (Or.inr ⟨by kernel_rfl, rfl⟩) (by assumption) ?_
    try simp only [Act.put, List.getElem_toArray, List.getElem_cons_succ, List.getElem_cons_zero]
    refine wpAnyH_take (i := 13) (v := undef) rfl (by kernel_rfl) (by kernel_rfl) (by kernel_rfl) (fun _ _ _ h => h) (Or.inr ⟨by kernel_rfl, rfl⟩) (by assumption) ?_
    try simp only [Act.put, List.getElem_toArray, List.getElem_cons_succ, List.getElem_cons_zero]
    refine wpAnyH_take (i := 14) (v := undef) rfl (by kernel_rfl) (by kernel_rfl) (by kernel_rfl) (fun _ _ _ h => h) (Or.inr ⟨by kernel_rfl, rfl⟩) (by assumption) ?_
    try simp only [Act.put, List.getElem_toArray, List.getElem_cons_succ, List.getElem_cons_zero]
    refine wpAnyH_take (i := 15) (v := undef) rfl (by kernel_rfl) (by kernel_rfl) (by kernel_rfl) (fun _ _ _ h => h) (Or.inr ⟨by kernel_rfl, rfl⟩) (by assumption) ?_
    try simp only [Act.put, List.getElem_toArray, List.getElem_cons_succ, List.getElem_cons_zero]
    refine wpAnyH_take (i := 16) (v := undef) rfl (by kernel_rfl) (by kernel_rfl) (by kernel_rfl) (fun _ _ _ h => h) (Or.inr ⟨by kernel_rfl, rfl⟩) (by assumption) ?_
    try simp only [Act.put, List.getElem_toArray, List.getElem_cons_succ, List.getElem_cons_zero]
    refine wpAnyH_take (i := 17) (v := undef) rfl (by kernel_rfl) (by kernel_rfl) (by kernel_rfl) (fun _ _ _ h => h) (Or.inr ⟨by kernel_rfl, rfl⟩) (by assumption) ?_
    try simp only [Act.put, List.getElem_toArray, List.getElem_cons_succ, List.getElem_cons_zero]
    refine wpAnyH_take (i := 18) (v := undef) rfl (by kernel_rfl) (by kernel_rfl) (by kernel_rfl) (fun _ _ _ h => h) (Or.inr ⟨by kernel_rfl, rfl⟩) (by assumption) ?_
    try simp only [Act.put, List.getElem_toArray, List.getElem_cons_succ, List.getElem_cons_zero]
    refine wpAnyH_take (i := 19) (v := undef) rfl (by kernel_rfl) (by kernel_rfl) (by kernel_rfl) (fun _ _ _ h => h) (Or.inr ⟨by kernel_rfl, rfl⟩) (by assumption) ?_
    try simp only [Act.put, List.getElem_toArray, List.getElem_cons_succ, List.getElem_cons_zero]
    refine wpAnyH_take (i := 20) (v := undef) rfl (by kernel_rfl) (by kernel_rfl) (by kernel_rfl) (fun _ _ _ h => h) (Or.inr ⟨by kernel_rfl, rfl⟩) (by assumption) ?_
    try simp only [Act.put, List.getElem_toArray, List.getElem_cons_succ, List.getElem_cons_zero]
    refine wpAnyH_take (i := 21) (v := undef) rfl (by kernel_rfl) (by kernel_rfl) (by kernel_rfl) (fun _ _ _ h => h) (Or.inr ⟨by kernel_rfl, rfl⟩) (by assumption) ?_
    try simp only [Act.put, List.getElem_toArray, List.getElem_cons_succ, List.getElem_cons_zero]
    refine wpAnyH_take (i := 22) (v := undef) rfl (by kernel_rfl) (by kernel_rfl) (by kernel_rfl) (fun _ _ _ h => h) (Or.inr ⟨by kernel_rfl, rfl⟩) (by assumption) ?_
    try simp only [Act.put, List.getElem_toArray, List.getElem_cons_succ, List.getElem_cons_zero]
    refine wpAnyH_take (i := 23) (v := .bool true) rfl (by kernel_rfl) (by kernel_rfl) (by kernel_rfl) (fun _ _ _ h => h) (Or.inl ⟨by kernel_rfl, fun w' _ => by kernel_rfl⟩) (by assumption) ?_
    try simp only [Act.put, List.getElem_toArray, List.getElem_cons_succ, List.getElem_cons_zero]
    refine wpAnyH_done (by kernel_rfl) ?_ _
    simp only [List.setIfInBounds_toArray, List.set_cons_succ, List.set_cons_zero]
    go_wp2_with fail
    refine (HF.out w4).mono ?_
    rintro e w5 ⟨rfl, bx⟩
    have P1 := Lib.hid (O1.out.below bx O1.out.lt)
    have P2 := Lib.hid (O2.out.below bx O2.out.lt)
    have P3 := Lib.hid (O3.out.below bx O3.out.lt)
    have PB := Lib.hid (B3.out.trans (bx.mono B3.out.size))
    clear bx O1 O2 O3 B3 a0 a1 c0 c1 r0 r1 z0
    have O1 := Lib.hid P1.out
    have O2 := Lib.hid P2.out
    have O3 := Lib.hid P3.out
    have B3 := Lib.hid PB.out
    clear P1 P2 P3 PB
    have a0 : w5.cell? ⟨q1, 0, none⟩ = some (.int .u64 (uv al)) := O1.out.cell 0
    have a1 : w5.cell? ⟨q1, 1, none⟩ = some (.int .u64 (uv ah)) := O1.out.cell 1
    have c0 : w5.cell? ⟨q2, 0, none⟩ = some (.int .u64 (uv bl')) := O2.out.cell 0
    have c1 : w5.cell? ⟨q2, 1, none⟩ = some (.int .u64 (uv bh)) := O2.out.cell 1
    have r0 : w5.cell? ⟨q3, 0, none⟩ = some (.int .u64 0) := O3.out.cell 0
    have r1 : w5.cell? ⟨q3, 1, none⟩ = some (.int .u64 0) := O3.out.cell 1
    have z0 : ∀ i, w5.frozen? ⟨q3, i, none⟩ = false := O3.out.frozen
    go_wp2_with fail
    have hw := (B3.out.setCell (p := ⟨q3, 0, none⟩) hq.out (.int .u64 (0))).setCell (p := ⟨q3, 1, none⟩) hq.out (.int .u64 (18446744073709551615))
    have HOX := Lib.hid ((O3.out.set_ 0 (.int .u64 (0))).set_ 1 (.int .u64 (18446744073709551615)))
    generalize (w5.setCell ⟨q3, 0, none⟩ (.int .u64 (0))).setCell ⟨q3, 1, none⟩ (.int .u64 (18446744073709551615)) = wf at hw HOX ⊢
    have t0 : wf.cell? ⟨q3, 0, none⟩ = some (.int .u64 (0)) := HOX.out.cell 0
    have t1 : wf.cell? ⟨q3, 1, none⟩ = some (.int .u64 (18446744073709551615)) := HOX.out.cell 1
    exact bodyPost_ret (v := .agg #[.int .u64 (0), .int .u64 (18446744073709551615)]) (by simp [results, Try.results33, go_sem, t0, t1]) rfl ⟨by rw [HR.out] <;> first | done | rfl, hw⟩
  · have h1 : bl' = bh := Decidable.not_not.1 h1
    have HS := Lib.hid (fun w => isone_any w (uv bl') (uv bh))
    rw [show (uv bl' == uv bh) = true by rw [uv_beq]; exact decide_eq_true h1] at HS
    unfold spVal at HS
    have HL := Lib.hid (fun w => len64_any ah w)
    by_cases h2 : ah = 0#64
    · have HR := Lib.hid (show V = (al <<< bl'.toNat, ah <<< bl'.toNat) by rw [← HV.out]; exact (if_neg (not_not_intro h1)).trans (if_neg (fun h => h.1 h2)))
      rw [show bl ah = 0 by rw [h2]; exact bl_zero] at HL
      clear h1 h2
      obtain ⟨o1, o2, o3, b3⟩ := three w (uv al) (uv ah) (uv bl') (uv bh)
      have O1 := Lib.hid o1
      have O2 := Lib.hid o2
      have O3 := Lib.hid o3
      have B3 := Lib.hid b3
      clear o1 o2 o3 b3
      have hp1 : Hid (w.heap.size ≤ w.heap.size + 1) := Lib.hid (by omega)
      have hp2 : Hid (w.heap.size ≤ w.heap.size + 2) := Lib.hid (by omega)
      go_enter Try.func33, Try.ntmps33
      go_upto_region 1 with fail
      generalize ((w.alloc (.cells #[.int .u64 (uv al), .int .u64 (uv ah)] 26)).alloc (.cells #[.int .u64 (uv bl'), .int .u64 (uv bh)] 26)).alloc (.cells #[.int .u64 0, .int .u64 0] 26) = w3 at O1 O2 O3 B3 ⊢
      obtain ⟨q1, hq1⟩ : ∃ q, w.heap.size = q := ⟨_, rfl⟩
      obtain ⟨q2, hq2⟩ : ∃ q, w.heap.size + 1 = q := ⟨_, rfl⟩
      obtain ⟨q3, hq3⟩ : ∃ q, w.heap.size + 2 = q := ⟨_, rfl⟩
      rw [hq3] at O3 hp2 ⊢
      rw [hq2] at O2 hp1 ⊢
      rw [hq1] at O1 ⊢
      have hq : Hid (w.heap.size ≤ q3) := Lib.hid (by omega)
      clear hq1 hq2 hq3 hp1 hp2
      have a0 : w3.cell? ⟨q1, 0, none⟩ = some (.int .u64 (uv al)) := O1.out.cell 0
      have a1 : w3.cell? ⟨q1, 1, none⟩ = some (.int .u64 (uv ah)) := O1.out.cell 1
      have c0 : w3.cell? ⟨q2, 0, none⟩ = some (.int .u64 (uv bl')) := O2.out.cell 0
      have c1 : w3.cell? ⟨q2, 1, none⟩ = some (.int .u64 (uv bh)) := O2.out.cell 1
      have r0 : w3.cell? ⟨q3, 0, none⟩ = some (.int .u64 0) := O3.out.cell 0
      have r1 : w3.cell? ⟨q3, 1, none⟩ = some (.int .u64 0) := O3.out.cell 1
      have z0 : ∀ i, w3.frozen? ⟨q3, i, none⟩ = false := O3.out.frozen
      refine wp_region_held_drew (S := (fun w' => w'.cell? ⟨q1, 1, none⟩ = some (.int .u64 (uv ah)) ∧ w'.cell? ⟨q2, 0, none⟩ = some (.int .u64 (uv bl')) ∧ w'.cell? ⟨q2, 1, none⟩ = some (.int .u64 (uv bh)))) (by kernel_rfl) ⟨a1, c0, c1⟩ (fun hHeld => ?_)
      refine wpAnyH_take (i := 0) (v := ?_) rfl (by kernel_rfl) (by kernel_rfl) (by kernel_rfl) (fun _ _ _ h => h) (Or.inl ⟨by kernel_rfl, ?_⟩) (by assumption) ?_
      rotate_left
      · (intro w' hSw; (try dsimp only at hSw); go_simp; try with_reducible rfl)
      try simp only [Act.put, List.getElem_toArray, List.getElem_cons_succ, List.getElem_cons_zero]
      refine wpAnyH_ready (rs := [1]) (by kernel_rfl) (by simp) ?_
      refine AllReadyH.cons rfl (fun K' hK => ?_) AllReadyH.nil
      go_simp
      refine (HS.out _).mono ?_
      rintro e w4 ⟨rfl, bb⟩
      have bx : Below w3.heap.size w3 w4 := (below_drewN (Below.refl w3.heap.size w3) 1).trans bb
      have P1 := Lib.hid (O1.out.below bx O1.out.lt)
      have P2 := Lib.hid (O2.out.below bx O2.out.lt)
      have P3 := Lib.hid (O3.out.below bx O3.out.lt)
      have PB := Lib.hid (B3.out.trans (bx.mono B3.out.size))
      clear bx bb O1 O2 O3 B3 a0 a1 c0 c1 r0 r1 z0
      have O1 := Lib.hid P1.out
      have O2 := Lib.hid P2.out
      have O3 := Lib.hid P3.out
      have B3 := Lib.hid PB.out
      clear P1 P2 P3 PB
      have a0 : w4.cell? ⟨q1, 0, none⟩ = some (.int .u64 (uv al)) := O1.out.cell 0
      have a1 : w4.cell? ⟨q1, 1, none⟩ = some (.int .u64 (uv ah)) := O1.out.cell 1
      have c0 : w4.cell? ⟨q2, 0, none⟩ = some (.int .u64 (uv bl')) := O2.out.cell 0
      have c1 : w4.cell? ⟨q2, 1, none⟩ = some (.int .u64 (uv bh)) := O2.out.cell 1
      have r0 : w4.cell? ⟨q3, 0, none⟩ = some (.int .u64 0) := O3.out.cell 0
      have r1 : w4.cell? ⟨q3, 1, none⟩ = some (.int .u64 0) := O3.out.cell 1
      have z0 : ∀ i, w4.frozen? ⟨q3, i, none⟩ = false := O3.out.frozen
      go_wp2_with fail
      refine hK.out _ _ ⟨a1, c0, c1⟩ (fun hHeld => ?_)
      clear hK K'
      try simp only [Act.put, List.getElem_toArray, List.getElem_cons_succ, List.getElem_cons_zero]
      refine wpAnyH_take (i := 2) (v := ?_) rfl (by kernel_rfl) (by kernel_rfl) (by kernel_rfl) (fun _ _ _ h => h) (Or.inl ⟨by kernel_rfl, ?_⟩) (by assumption) ?_
      rotate_left
      · (intro w' hSw; (try dsimp only at hSw); go_simp; try with_reducible rfl)
      try simp only [Act.put, List.getElem_toArray, List.getElem_cons_succ, List.getElem_cons_zero]
      refine wpAnyH_take (i := 3) (v := ?_) rfl (by kernel_rfl) (by kernel_rfl) (by kernel_rfl) (fun _ _ _ h => h) (Or.inl ⟨by kernel_rfl, ?_⟩) (by assumption) ?_
      rotate_left
      · (intro w' hSw; (try dsimp only at hSw); go_simp; try with_reducible rfl)
      try simp only [Act.put, List.getElem_toArray, List.getElem_cons_succ, List.getElem_cons_zero]
      refine wpAnyH_take (i := 4) (v := ?_) rfl (by kernel_rfl) (by kernel_rfl) (by kernel_rfl) (fun _ _ _ h => h) (Or.inl ⟨by kernel_rfl, ?_⟩) (by assumption) ?_
      rotate_left
      · (intro w' hSw; (try dsimp only at hSw); go_simp; try with_reducible rfl)
      try simp only [Act.put, List.getElem_toArray, List.getElem_cons_succ, List.getElem_cons_zero]
      refine wpAnyH_take (i := 5) (v := ?_) rfl (by kernel_rfl) (by kernel_rfl) (by kernel_rfl) (fun _ _ _ h => h) (Or.inl ⟨by kernel_rfl, ?_⟩) (by assumption) ?_
      rotate_left
      · (intro w' hSw; (try dsimp only at hSw); go_simp; try with_reducible rfl)
      try simp only [Act.put, List.getElem_toArray, List.getElem_cons_succ, List.getElem_cons_zero]
      refine wpAnyH_ready (rs := [6]) (by kernel_rfl) (by simp) ?_
      refine AllReadyH.cons rfl (fun K' hK => ?_) AllReadyH.nil
      go_simp
      refine (HL.out _).mono ?_
      rintro e wx ⟨rfl, rfl⟩
      go_wp2_with fail
      refine hK.out _ _ ⟨a1, c0, c1⟩ (fun hHeld => ?_)
      clear hK K'
      try simp only [Act.put, List.getElem_toArray, List.getElem_cons_succ, List.getElem_cons_zero]
      refine wpAnyH_take (i := 7) (v := ?_) rfl (by kernel_rfl) (by kernel_rfl) (by kernel_rfl) (fun _ _ _ h => h) (Or.inl ⟨by kernel_rfl, ?_⟩) (by assumption) ?_
      rotate_left
      · (intro w' hSw; (try dsimp only at hSw); go_simp; try with_reducible rfl)
      try simp only [Act.put, List.getElem_toArray, List.getElem_cons_succ, List.getElem_cons_zero]
      refine wpAnyH_take (i := 8) (v := ?_) rfl (by kernel_rfl) (by kernel_rfl) (by kernel_rfl) (fun _ _ _ h => h) (Or.inl ⟨by kernel_rfl, ?_⟩) (by assumption) ?_
      rotate_left
      · (intro w' hSw; (try dsimp only at hSw); go_simp; try with_reducible rfl)
      try simp only [Act.put, List.getElem_toArray, List.getElem_cons_succ, List.getElem_cons_zero]
      refine wpAnyH_take (i := 9) (v := undef) rfl (by kernel_rfl) (by kernel_rfl) (by kernel_rfl) (fun _ _ _ h => h) (Or.inr ⟨by kernel_rfl, rfl⟩) (by assumption) ?_
      try simp only [Act.put, List.getElem_toArray, List.getElem_cons_succ, List.getElem_cons_zero]
      refine wpAnyH_take (i := 10) (v := undef) rfl (by kernel_rfl) (by kernel_rfl) (by kernel_rfl) (fun _ _ _ h => h) (Or.inr ⟨by kernel_rfl, rfl⟩) (by assumption) ?_
      try simp only [Act.put, List.getElem_toArray, List.getElem_cons_succ, List.getElem_cons_zero]
      refine wpAnyH_take (i := 11) (v := undef) rfl (by kernel_rfl) (by kernel_rfl) (by kernel_rfl) (fun _ _ _ h => h) (Or.inr ⟨by kernel_rfl, rfl⟩) (by assumption) ?_
      try simp only [Act.put, List.getElem_toArray, List.getElem_cons_succ, List.getElem_cons_zero]
      refine wpAnyH_take (i := 12) (v := undef) rfl (by kernel_rfl) (by kernel_rfl) (by kernel_rfl) (fun _ _ _ h => h) (Or.inr ⟨by kernel_rfl, rfl⟩) (by assumption) ?_
      try simp only [Act.put, List.getElem_toArray, List.getElem_cons_succ, List.getElem_cons_zero]
      refine wpAnyH_take (i := 13) (v := undef) rfl (by kernel_rfl) (by kernel_rfl) (by kernel_rfl) (fun _ _ _ h => h) (Or.inr ⟨by kernel_rfl, rfl⟩) (by assumption) ?_
      try simp only [Act.put, List.getElem_toArray, List.getElem_cons_succ, List.getElem_cons_zero]
      refine wpAnyH_take (i := 14) (v := undef) rfl (by kernel_rfl) (by kernel_rfl) (by kernel_rfl) (fun _ _ _ h => h) (Or.inr ⟨by kernel_rfl, rfl⟩) (by assumption) ?_
      try simp only [Act.put, List.getElem_toArray, List.getElem_cons_succ, List.getElem_cons_zero]
      refine wpAnyH_take (i := 15) (v := undef) rfl (by kernel_rfl) (by kernel_rfl) (by kernel_rfl) (fun _ _ _ h => h) (Or.inr ⟨by kernel_rfl, rfl⟩) (by assumption) ?_
      try simp only [Act.put, List.getElem_toArray, List.getElem_cons_succ, List.getElem_cons_zero]
      refine wpAnyH_take (i := 16) (v := undef) rfl (by kernel_rfl) (by kernel_rfl) (by kernel_rfl) (fun _ _ _ h => h) (Or.inr ⟨by kernel_rfl, rfl⟩) (by assumption) ?_
      try simp only [Act.put, List.getElem_toArray, List.getElem_cons_succ, List.getElem_cons_zero]
      refine wpAnyH_take (i := 17) (v := undef) rfl (by kernel_rfl) (by kernel_rfl) (by kernel_rfl) (fun _ _ _ h => h) (Or.inr ⟨by kernel_rfl, rfl⟩) (by assumption) ?_
      try simp only [Act.put, List.getElem_toArray, List.getElem_cons_succ, List.getElem_cons_zero]
      refine wpAnyH_take (i := 18) (v := undef) rfl (by kernel_rfl) (by kernel_rfl) (by kernel_rfl) (fun _ _ _ h => h) (Or.inr ⟨by kernel_rfl, rfl⟩) (by assumption) ?_
      try simp only [Act.put, List.getElem_toArray, List.getElem_cons_succ, List.getElem_cons_zero]
      refine wpAnyH_take (i := 19) (v := undef) rfl (by kernel_rfl) (by kernel_rfl) (by kernel_rfl) (fun _ _ _ h => h) (Or.inr ⟨by kernel_rfl, rfl⟩) (by assumption) ?_
      try simp only [Act.put, List.getElem_toArray, List.getElem_cons_succ, List.getElem_cons_zero]
      refine wpAnyH_take (i := 20) (v := undef) rfl (by kernel_rfl) (by kernel_rfl) (by kernel_rfl) (fun _ _ _ h => h) (Or.inr ⟨by kernel_rfl, rfl⟩) (by assumption) ?_
      try simp only [Act.put, List.getElem_toArray, List.getElem_cons_succ, List.getElem_cons_zero]
      refine wpAnyH_take (i := 21) (v := undef) rfl (by kernel_rfl) (by kernel_rfl) (by kernel_rfl) (fun _ _ _ h => h) (Or.inr ⟨by kernel_rfl, rfl⟩) (by assumption) ?_
      try simp only [Act.put, List.getElem_toArray, List.getElem_cons_succ, List.getElem_cons_zero]
      refine wpAnyH_take (i := 22) (v := .bool false) rfl (by kernel_rfl) (by kernel_rfl) (by kernel_rfl) (fun _ _ _ h => h) (Or.inl ⟨by kernel_rfl, fun w' _ => by kernel_rfl⟩) (by assumption) ?_
      try simp only [Act.put, List.getElem_toArray, List.getElem_cons_succ, List.getElem_cons_zero]
      refine wpAnyH_take (i := 23) (v := .bool false) rfl (by kernel_rfl) (by kernel_rfl) (by kernel_rfl) (fun _ _ _ h => h) (Or.inl ⟨by kernel_rfl, fun w' _ => by kernel_rfl⟩) (by assumption) ?_
      try simp only [Act.put, List.getElem_toArray, List.getElem_cons_succ, List.getElem_cons_zero]
      refine wpAnyH_done (by kernel_rfl) ?_ _
      simp only [List.setIfInBounds_toArray, List.set_cons_succ, List.set_cons_zero]
      go_wp2_with fail
      have hw := (B3.out.setCell (p := ⟨q3, 0, none⟩) hq.out (.int .u64 (uv (al <<< bl'.toNat)))).setCell (p := ⟨q3, 1, none⟩) hq.out (.int .u64 (uv (ah <<< bl'.toNat)))
      have HOX := Lib.hid ((O3.out.set_ 0 (.int .u64 (uv (al <<< bl'.toNat)))).set_ 1 (.int .u64 (uv (ah <<< bl'.toNat))))
      generalize (w4.setCell ⟨q3, 0, none⟩ (.int .u64 (uv (al <<< bl'.toNat)))).setCell ⟨q3, 1, none⟩ (.int .u64 (uv (ah <<< bl'.toNat))) = wf at hw HOX ⊢
      have t0 : wf.cell? ⟨q3, 0, none⟩ = some (.int .u64 (uv (al <<< bl'.toNat))) := HOX.out.cell 0
      have t1 : wf.cell? ⟨q3, 1, none⟩ = some (.int .u64 (uv (ah <<< bl'.toNat))) := HOX.out.cell 1
      exact bodyPost_ret (v := .agg #[.int .u64 (uv (al <<< bl'.toNat)), .int .u64 (uv (ah <<< bl'.toNat))]) (by simp [results, Try.results33, go_sem, t0, t1]) rfl ⟨by rw [HR.out] <;> first | done | rfl, hw⟩
    · have h2 : ah ≠ 0#64 := h2
      have hn0 := bl_ne h2
      have hn1 := bl_le64 ah
      by_cases h3 : 64 < bl'.toNat
      · have HR := Lib.hid (show V = (0#64, mostB) by rw [← HV.out]; exact (if_neg (not_not_intro h1)).trans (if_pos ⟨h2, by omega⟩))
        have g5 : (64 : Int) < uv bl' := by unfold uv; omega
        have g6 : decide ((64 : Int) < uv bl') = true := decide_eq_true g5
        have gN : (0 : Int) < (bl ah : Int) := by omega
        have gM : (bl ah : Int) ≤ 64 := by omega
        generalize (bl ah : Int) = N at gN gM HL
        have g7 : decide (0 < N) = true := decide_eq_true gN
        clear h1 h2 h3 hn0 hn1
        obtain ⟨o1, o2, o3, b3⟩ := three w (uv al) (uv ah) (uv bl') (uv bh)
        have O1 := Lib.hid o1
        have O2 := Lib.hid o2
        have O3 := Lib.hid o3
        have B3 := Lib.hid b3
        clear o1 o2 o3 b3
        have hp1 : Hid (w.heap.size ≤ w.heap.size + 1) := Lib.hid (by omega)
        have hp2 : Hid (w.heap.size ≤ w.heap.size + 2) := Lib.hid (by omega)
        go_enter Try.func33, Try.ntmps33
        go_upto_region 1 with fail
        generalize ((w.alloc (.cells #[.int .u64 (uv al), .int .u64 (uv ah)] 26)).alloc (.cells #[.int .u64 (uv bl'), .int .u64 (uv bh)] 26)).alloc (.cells #[.int .u64 0, .int .u64 0] 26) = w3 at O1 O2 O3 B3 ⊢
        obtain ⟨q1, hq1⟩ : ∃ q, w.heap.size = q := ⟨_, rfl⟩
        obtain ⟨q2, hq2⟩ : ∃ q, w.heap.size + 1 = q := ⟨_, rfl⟩
        obtain ⟨q3, hq3⟩ : ∃ q, w.heap.size + 2 = q := ⟨_, rfl⟩
        rw [hq3] at O3 hp2 ⊢
        rw [hq2] at O2 hp1 ⊢
        rw [hq1] at O1 ⊢
        have hq : Hid (w.heap.size ≤ q3) := Lib.hid (by omega)
        clear hq1 hq2 hq3 hp1 hp2
        have a0 : w3.cell? ⟨q1, 0, none⟩ = some (.int .u64 (uv al)) := O1.out.cell 0
        have a1 : w3.cell? ⟨q1, 1, none⟩ = some (.int .u64 (uv ah)) := O1.out.cell 1
        have c0 : w3.cell? ⟨q2, 0, none⟩ = some (.int .u64 (uv bl')) := O2.out.cell 0
        have c1 : w3.cell? ⟨q2, 1, none⟩ = some (.int .u64 (uv bh)) := O2.out.cell 1
        have r0 : w3.cell? ⟨q3, 0, none⟩ = some (.int .u64 0) := O3.out.cell 0
        have r1 : w3.cell? ⟨q3, 1, none⟩ = some (.int .u64 0) := O3.out.cell 1
        have z0 : ∀ i, w3.frozen? ⟨q3, i, none⟩ = false := O3.out.frozen
        refine wp_region_held_drew (S := (fun w' => w'.cell? ⟨q1, 1, none⟩ = some (.int .u64 (uv ah)) ∧ w'.cell? ⟨q2, 0, none⟩ = some (.int .u64 (uv bl')) ∧ w'.cell? ⟨q2, 1, none⟩ = some (.int .u64 (uv bh)))) (by kernel_rfl) ⟨a1, c0, c1⟩ (fun hHeld => ?_)
        refine wpAnyH_take (i := 0) (v := ?_) rfl (by kernel_rfl) (by kernel_rfl) (by kernel_rfl) (fun _ _ _ h => h) (Or.inl ⟨by kernel_rfl, ?_⟩) (by assumption) ?_
        rotate_left
        · (intro w' hSw; (try dsimp only at hSw); go_simp; try with_reducible rfl)
        try simp only [Act.put, List.getElem_toArray, List.getElem_cons_succ, List.getElem_cons_zero]
        refine wpAnyH_ready (rs := [1]) (by kernel_rfl) (by simp) ?_
        refine AllReadyH.cons rfl (fun K' hK => ?_) AllReadyH.nil
        go_simp
        refine (HS.out _).mono ?_
        rintro e w4 ⟨rfl, bb⟩
        have bx : Below w3.heap.size w3 w4 := (below_drewN (Below.refl w3.heap.size w3) 1).trans bb
        have P1 := Lib.hid (O1.out.below bx O1.out.lt)
        have P2 := Lib.hid (O2.out.below bx O2.out.lt)
        have P3 := Lib.hid (O3.out.below bx O3.out.lt)
        have PB := Lib.hid (B3.out.trans (bx.mono B3.out.size))
        clear bx bb O1 O2 O3 B3 a0 a1 c0 c1 r0 r1 z0
        have O1 := Lib.hid P1.out
        have O2 := Lib.hid P2.out
        have O3 := Lib.hid P3.out
        have B3 := Lib.hid PB.out
        clear P1 P2 P3 PB
        have a0 : w4.cell? ⟨q1, 0, none⟩ = some (.int .u64 (uv al)) := O1.out.cell 0
        have a1 : w4.cell? ⟨q1, 1, none⟩ = some (.int .u64 (uv ah)) := O1.out.cell 1
        have c0 : w4.cell? ⟨q2, 0, none⟩ = some (.int .u64 (uv bl')) := O2.out.cell 0
        have c1 : w4.cell? ⟨q2, 1, none⟩ = some (.int .u64 (uv bh)) := O2.out.cell 1
        have r0 : w4.cell? ⟨q3, 0, none⟩ = some (.int .u64 0) := O3.out.cell 0
        have r1 : w4.cell? ⟨q3, 1, none⟩ = some (.int .u64 0) := O3.out.cell 1
        have z0 : ∀ i, w4.frozen? ⟨q3, i, none⟩ = false := O3.out.frozen
        go_wp2_with fail
        refine hK.out _ _ ⟨a1, c0, c1⟩ (fun hHeld => ?_)
        clear hK K'
        try simp only [Act.put, List.getElem_toArray, List.getElem_cons_succ, List.getElem_cons_zero]
        refine wpAnyH_take (i := 2) (v := ?_) rfl (by kernel_rfl) (by kernel_rfl) (by kernel_rfl) (fun _ _ _ h => h) (Or.inl ⟨by kernel_rfl, ?_⟩) (by assumption) ?_
        rotate_left
        · (intro w' hSw; (try dsimp only at hSw); go_simp; try with_reducible rfl)
        try simp only [Act.put, List.getElem_toArray, List.getElem_cons_succ, List.getElem_cons_zero]
        refine wpAnyH_take (i := 3) (v := ?_) rfl (by kernel_rfl) (by kernel_rfl) (by kernel_rfl) (fun _ _ _ h => h) (Or.inl ⟨by kernel_rfl, ?_⟩) (by assumption) ?_
        rotate_left
        · (intro w' hSw; (try dsimp only at hSw); go_simp; try with_reducible rfl)
        try simp only [Act.put, List.getElem_toArray, List.getElem_cons_succ, List.getElem_cons_zero]
        refine wpAnyH_take (i := 4) (v := ?_) rfl (by kernel_rfl) (by kernel_rfl) (by kernel_rfl) (fun _ _ _ h => h) (Or.inl ⟨by kernel_rfl, ?_⟩) (by assumption) ?_
        rotate_left
        · (intro w' hSw; (try dsimp only at hSw); go_simp; try with_reducible rfl)
        try simp only [Act.put, List.getElem_toArray, List.getElem_cons_succ, List.getElem_cons_zero]
        refine wpAnyH_take (i := 5) (v := ?_) rfl (by kernel_rfl) (by kernel_rfl) (by kernel_rfl) (fun _ _ _ h => h) (Or.inl ⟨by kernel_rfl, ?_⟩) (by assumption) ?_
        rotate_left
        · (intro w' hSw; (try dsimp only at hSw); go_simp; try with_reducible rfl)
        try simp only [Act.put, List.getElem_toArray, List.getElem_cons_succ, List.getElem_cons_zero]
        refine wpAnyH_ready (rs := [6]) (by kernel_rfl) (by simp) ?_
        refine AllReadyH.cons rfl (fun K' hK => ?_) AllReadyH.nil
        go_simp
        refine (HL.out _).mono ?_
        rintro e wx ⟨rfl, rfl⟩
        go_wp2_with fail
        refine hK.out _ _ ⟨a1, c0, c1⟩ (fun hHeld => ?_)
        clear hK K'
        try simp only [Act.put, List.getElem_toArray, List.getElem_cons_succ, List.getElem_cons_zero]
        refine wpAnyH_take (i := 7) (v := ?_) rfl (by kernel_rfl) (by kernel_rfl) (by kernel_rfl) (fun _ _ _ h => h) (Or.inl ⟨by kernel_rfl, ?_⟩) (by assumption) ?_
        rotate_left
        · (intro w' hSw; (try dsimp only at hSw); go_simp; try with_reducible rfl)
        try simp only [Act.put, List.getElem_toArray, List.getElem_cons_succ, List.getElem_cons_zero]
        refine wpAnyH_take (i := 8) (v := ?_) rfl (by kernel_rfl) (by kernel_rfl) (by kernel_rfl) (fun _ _ _ h => h) (Or.inl ⟨by kernel_rfl, ?_⟩) (by assumption) ?_
        rotate_left
        · (intro w' hSw; (try dsimp only at hSw); go_simp; try with_reducible rfl)
        try simp only [Act.put, List.getElem_toArray, List.getElem_cons_succ, List.getElem_cons_zero]
        refine wpAnyH_take (i := 9) (v := ?_) rfl (by kernel_rfl) (by kernel_rfl) (by kernel_rfl) (fun _ _ _ h => h) (Or.inl ⟨by kernel_rfl, ?_⟩) (by assumption) ?_
        rotate_left
        · (intro w' hSw; (try dsimp only at hSw); go_simp; try with_reducible rfl)
        try simp only [Act.put, List.getElem_toArray, List.getElem_cons_succ, List.getElem_cons_zero]
        refine wpAnyH_take (i := 10) (v := ?_) rfl (by kernel_rfl) (by kernel_rfl) (by kernel_rfl) (fun _ _ _ h => h) (Or.inl ⟨by kernel_rfl, ?_⟩) (by assumption) ?_
        rotate_left
        · (intro w' hSw; (try dsimp only at hSw); go_simp; try with_reducible rfl)
        try simp only [Act.put, List.getElem_toArray, List.getElem_cons_succ, List.getElem_cons_zero]
        refine wpAnyH_take (i := 11) (v := ?_) rfl (by kernel_rfl) (by kernel_rfl) (by kernel_rfl) (fun _ _ _ h => h) (Or.inl ⟨by kernel_rfl, ?_⟩) (by assumption) ?_
        rotate_left
        · (intro w' hSw; (try dsimp only at hSw); go_simp; try with_reducible rfl)
        try simp only [Act.put, List.getElem_toArray, List.getElem_cons_succ, List.getElem_cons_zero]
        refine wpAnyH_take (i := 12) (v := ?_) rfl (by kernel_rfl) (by kernel_rfl) (by kernel_rfl) (fun _ _ _ h => h) (Or.inl ⟨by kernel_rfl, ?_⟩) (by assumption) ?_
        rotate_left
        · (intro w' hSw; (try dsimp only at hSw); go_simp; try with_reducible rfl)
        try simp only [Act.put, List.getElem_toArray, List.getElem_cons_succ, List.getElem_cons_zero]
        refine wpAnyH_take (i := 13) (v := undef) rfl (by kernel_rfl) (by kernel_rfl) (by kernel_rfl) (fun _ _ _ h => h) (Or.inr ⟨by kernel_rfl, rfl⟩) (by assumption) ?_
        try simp only [Act.put, List.getElem_toArray, List.getElem_cons_succ, List.getElem_cons_zero]
        refine wpAnyH_take (i := 14) (v := undef) rfl (by kernel_rfl) (by kernel_rfl) (by kernel_rfl) (fun _ _ _ h => h) (Or.inr ⟨by kernel_rfl, rfl⟩) (by assumption) ?_
        try simp only [Act.put, List.getElem_toArray, List.getElem_cons_succ, List.getElem_cons_zero]
        refine wpAnyH_take (i := 15) (v := undef) rfl (by kernel_rfl) (by kernel_rfl) (by kernel_rfl) (fun _ _ _ h => h) (Or.inr ⟨by kernel_rfl, rfl⟩) (by assumption) ?_
        try simp only [Act.put, List.getElem_toArray, List.getElem_cons_succ, List.getElem_cons_zero]
        refine wpAnyH_take (i := 16) (v := undef) rfl (by kernel_rfl) (by kernel_rfl) (by kernel_rfl) (fun _ _ _ h => h) (Or.inr ⟨by kernel_rfl, rfl⟩) (by assumption) ?_
        try simp only [Act.put, List.getElem_toArray, List.getElem_cons_succ, List.getElem_cons_zero]
        refine wpAnyH_take (i := 17) (v := undef) rfl (by kernel_rfl) (by kernel_rfl) (by kernel_rfl) (fun _ _ _ h => h) (Or.inr ⟨by kernel_rfl, rfl⟩) (by assumption) ?_
        try simp only [Act.put, List.getElem_toArray, List.getElem_cons_succ, List.getElem_cons_zero]
        refine wpAnyH_take (i := 18) (v := undef) rfl (by kernel_rfl) (by kernel_rfl) (by kernel_rfl) (fun _ _ _ h => h) (Or.inr ⟨by kernel_rfl, rfl⟩) (by assumption) ?_
        try simp only [Act.put, List.getElem_toArray, List.getElem_cons_succ, List.getElem_cons_zero]
        refine wpAnyH_take (i := 19) (v := undef) rfl (by kernel_rfl) (by kernel_rfl) (by kernel_rfl) (fun _ _ _ h => h) (Or.inr ⟨by kernel_rfl, rfl⟩) (by assumption) ?_
        try simp only [Act.put, List.getElem_toArray, List.getElem_cons_succ, List.getElem_cons_zero]
        refine wpAnyH_take (i := 20) (v := undef) rfl (by kernel_rfl) (by kernel_rfl) (by kernel_rfl) (fun _ _ _ h => h) (Or.inr ⟨by kernel_rfl, rfl⟩) (by assumption) ?_
        try simp only [Act.put, List.getElem_toArray, List.getElem_cons_succ, List.getElem_cons_zero]
        refine wpAnyH_take (i := 21) (v := .bool true) rfl (by kernel_rfl) (by kernel_rfl) (by kernel_rfl) (fun _ _ _ h => h) (Or.inl ⟨by kernel_rfl, fun w' _ => by kernel_rfl⟩) (by assumption) ?_
        try simp only [Act.put, List.getElem_toArray, List.getElem_cons_succ, List.getElem_cons_zero]
        refine wpAnyH_take (i := 22) (v := .bool true) rfl (by kernel_rfl) (by kernel_rfl) (by kernel_rfl) (fun _ _ _ h => h) (Or.inl ⟨by kernel_rfl, fun w' _ => by kernel_rfl⟩) (by assumption) ?_
        try simp only [Act.put, List.getElem_toArray, List.getElem_cons_succ, List.getElem_cons_zero]
        refine wpAnyH_take (i := 23) (v := .bool true) rfl (by kernel_rfl) (by kernel_rfl) (by kernel_rfl) (fun _ _ _ h => h) (Or.inl ⟨by kernel_rfl, fun w' _ => by kernel_rfl⟩) (by assumption) ?_
        try simp only [Act.put, List.getElem_toArray, List.getElem_cons_succ, List.getElem_cons_zero]
        refine wpAnyH_done (by kernel_rfl) ?_ _
        simp only [List.setIfInBounds_toArray, List.set_cons_succ, List.set_cons_zero]
        go_wp2_with fail
        refine (HF.out w4).mono ?_
        rintro e w5 ⟨rfl, bx⟩
        have P1 := Lib.hid (O1.out.below bx O1.out.lt)
        have P2 := Lib.hid (O2.out.below bx O2.out.lt)
        have P3 := Lib.hid (O3.out.below bx O3.out.lt)
        have PB := Lib.hid (B3.out.trans (bx.mono B3.out.size))
        clear bx O1 O2 O3 B3 a0 a1 c0 c1 r0 r1 z0
        have O1 := Lib.hid P1.out
        have O2 := Lib.hid P2.out
        have O3 := Lib.hid P3.out
        have B3 := Lib.hid PB.out
        clear P1 P2 P3 PB
        have a0 : w5.cell? ⟨q1, 0, none⟩ = some (.int .u64 (uv al)) := O1.out.cell 0
        have a1 : w5.cell? ⟨q1, 1, none⟩ = some (.int .u64 (uv ah)) := O1.out.cell 1
        have c0 : w5.cell? ⟨q2, 0, none⟩ = some (.int .u64 (uv bl')) := O2.out.cell 0
        have c1 : w5.cell? ⟨q2, 1, none⟩ = some (.int .u64 (uv bh)) := O2.out.cell 1
        have r0 : w5.cell? ⟨q3, 0, none⟩ = some (.int .u64 0) := O3.out.cell 0
        have r1 : w5.cell? ⟨q3, 1, none⟩ = some (.int .u64 0) := O3.out.cell 1
        have z0 : ∀ i, w5.frozen? ⟨q3, i, none⟩ = false := O3.out.frozen
        go_wp2_with fail
        have hw := (B3.out.setCell (p := ⟨q3, 0, none⟩) hq.out (.int .u64 (0))).setCell (p := ⟨q3, 1, none⟩) hq.out (.int .u64 (18446744073709551615))
        have HOX := Lib.hid ((O3.out.set_ 0 (.int .u64 (0))).set_ 1 (.int .u64 (18446744073709551615)))
        generalize (w5.setCell ⟨q3, 0, none⟩ (.int .u64 (0))).setCell ⟨q3, 1, none⟩ (.int .u64 (18446744073709551615)) = wf at hw HOX ⊢
        have t0 : wf.cell? ⟨q3, 0, none⟩ = some (.int .u64 (0)) := HOX.out.cell 0
        have t1 : wf.cell? ⟨q3, 1, none⟩ = some (.int .u64 (18446744073709551615)) := HOX.out.cell 1
        exact bodyPost_ret (v := .agg #[.int .u64 (0), .int .u64 (18446744073709551615)]) (by simp [results, Try.results33, go_sem, t0, t1]) rfl ⟨by rw [HR.out] <;> first | done | rfl, hw⟩
      · by_cases h4 : 64 < bl ah + bl'.toNat
        · have HR := Lib.hid (show V = (0#64, mostB) by rw [← HV.out]; exact (if_neg (not_not_intro h1)).trans (if_pos ⟨h2, h4⟩))
          have g5 : ¬ (64 : Int) < uv bl' := by unfold uv; omega
          have g6 : decide ((64 : Int) < uv bl') = false := decide_eq_false g5
          have g8 : decide ((64 : Int) < (bl ah : Int) + uv bl') = true := decide_eq_true (by unfold uv; omega)
          have g0 := uv_nonneg bl'
          have gN : (0 : Int) < (bl ah : Int) := by omega
          have gM : (bl ah : Int) ≤ 64 := by omega
          generalize (bl ah : Int) = N at gN gM HL g8
          have g7 : decide (0 < N) = true := decide_eq_true gN
          have hw1 : IntKind.u64.wrap N = N := by rw [IntKind.wrap_u64]; omega
          have hw2 : IntKind.u64.wrap (N + uv bl') = N + uv bl' := by rw [IntKind.wrap_u64]; omega
          clear h1 h2 h3 h4 hn0 hn1
          obtain ⟨o1, o2, o3, b3⟩ := three w (uv al) (uv ah) (uv bl') (uv bh)
          have O1 := Lib.hid o1
          have O2 := Lib.hid o2
          have O3 := Lib.hid o3
          have B3 := Lib.hid b3
          clear o1 o2 o3 b3
          have hp1 : Hid (w.heap.size ≤ w.heap.size + 1) := Lib.hid (by omega)
          have hp2 : Hid (w.heap.size ≤ w.heap.size + 2) := Lib.hid (by omega)
          go_enter Try.func33, Try.ntmps33
          go_upto_region 1 with fail
          generalize ((w.alloc (.cells #[.int .u64 (uv al), .int .u64 (uv ah)] 26)).alloc (.cells #[.int .u64 (uv bl'), .int .u64 (uv bh)] 26)).alloc (.cells #[.int .u64 0, .int .u64 0] 26) = w3 at O1 O2 O3 B3 ⊢
          obtain ⟨q1, hq1⟩ : ∃ q, w.heap.size = q := ⟨_, rfl⟩
          obtain ⟨q2, hq2⟩ : ∃ q, w.heap.size + 1 = q := ⟨_, rfl⟩
          obtain ⟨q3, hq3⟩ : ∃ q, w.heap.size + 2 = q := ⟨_, rfl⟩
          rw [hq3] at O3 hp2 ⊢
          rw [hq2] at O2 hp1 ⊢
          rw [hq1] at O1 ⊢
          have hq : Hid (w.heap.size ≤ q3) := Lib.hid (by omega)
          clear hq1 hq2 hq3 hp1 hp2
          have a0 : w3.cell? ⟨q1, 0, none⟩ = some (.int .u64 (uv al)) := O1.out.cell 0
          have a1 : w3.cell? ⟨q1, 1, none⟩ = some (.int .u64 (uv ah)) := O1.out.cell 1
          have c0 : w3.cell? ⟨q2, 0, none⟩ = some (.int .u64 (uv bl')) := O2.out.cell 0
          have c1 : w3.cell? ⟨q2, 1, none⟩ = some (.int .u64 (uv bh)) := O2.out.cell 1
          have r0 : w3.cell? ⟨q3, 0, none⟩ = some (.int .u64 0) := O3.out.cell 0
          have r1 : w3.cell? ⟨q3, 1, none⟩ = some (.int .u64 0) := O3.out.cell 1
          have z0 : ∀ i, w3.frozen? ⟨q3, i, none⟩ = false := O3.out.frozen
          refine wp_region_held_drew (S := (fun w' => w'.cell? ⟨q1, 1, none⟩ = some (.int .u64 (uv ah)) ∧ w'.cell? ⟨q2, 0, none⟩ = some (.int .u64 (uv bl')) ∧ w'.cell? ⟨q2, 1, none⟩ = some (.int .u64 (uv bh)))) (by kernel_rfl) ⟨a1, c0, c1⟩ (fun hHeld => ?_)
          refine wpAnyH_take (i := 0) (v := ?_) rfl (by kernel_rfl) (by kernel_rfl) (by kernel_rfl) (fun _ _ _ h => h) (Or.inl ⟨by kernel_rfl, ?_⟩) (by assumption) ?_
          rotate_left
          · (intro w' hSw; (try dsimp only at hSw); go_simp; try with_reducible rfl)
          try simp only [Act.put, List.getElem_toArray, List.getElem_cons_succ, List.getElem_cons_zero]
          refine wpAnyH_ready (rs := [1]) (by kernel_rfl) (by simp) ?_
          refine AllReadyH.cons rfl (fun K' hK => ?_) AllReadyH.nil
          go_simp
          refine (HS.out _).mono ?_
          rintro e w4 ⟨rfl, bb⟩
          have bx : Below w3.heap.size w3 w4 := (below_drewN (Below.refl w3.heap.size w3) 1).trans bb
          have P1 := Lib.hid (O1.out.below bx O1.out.lt)
          have P2 := Lib.hid (O2.out.below bx O2.out.lt)
          have P3 := Lib.hid (O3.out.below bx O3.out.lt)
          have PB := Lib.hid (B3.out.trans (bx.mono B3.out.size))
          clear bx bb O1 O2 O3 B3 a0 a1 c0 c1 r0 r1 z0
          have O1 := Lib.hid P1.out
          have O2 := Lib.hid P2.out
          have O3 := Lib.hid P3.out
          have B3 := Lib.hid PB.out
          clear P1 P2 P3 PB
          have a0 : w4.cell? ⟨q1, 0, none⟩ = some (.int .u64 (uv al)) := O1.out.cell 0
          have a1 : w4.cell? ⟨q1, 1, none⟩ = some (.int .u64 (uv ah)) := O1.out.cell 1
          have c0 : w4.cell? ⟨q2, 0, none⟩ = some (.int .u64 (uv bl')) := O2.out.cell 0
          have c1 : w4.cell? ⟨q2, 1, none⟩ = some (.int .u64 (uv bh)) := O2.out.cell 1
          have r0 : w4.cell? ⟨q3, 0, none⟩ = some (.int .u64 0) := O3.out.cell 0
          have r1 : w4.cell? ⟨q3, 1, none⟩ = some (.int .u64 0) := O3.out.cell 1
          have z0 : ∀ i, w4.frozen? ⟨q3, i, none⟩ = false := O3.out.frozen
          go_wp2_with fail
          refine hK.out _ _ ⟨a1, c0, c1⟩ (fun hHeld => ?_)
          clear hK K'
          try simp only [Act.put, List.getElem_toArray, List.getElem_cons_succ, List.getElem_cons_zero]
          refine wpAnyH_take (i := 2) (v := ?_) rfl (by kernel_rfl) (by kernel_rfl) (by kernel_rfl) (fun _ _ _ h => h) (Or.inl ⟨by kernel_rfl, ?_⟩) (by assumption) ?_
          rotate_left
          · (intro w' hSw; (try dsimp only at hSw); go_simp; try with_reducible rfl)
          try simp only [Act.put, List.getElem_toArray, List.getElem_cons_succ, List.getElem_cons_zero]
          refine wpAnyH_take (i := 3) (v := ?_) rfl (by kernel_rfl) (by kernel_rfl) (by kernel_rfl) (fun _ _ _ h => h) (Or.inl ⟨by kernel_rfl, ?_⟩) (by assumption) ?_
          rotate_left
          · (intro w' hSw; (try dsimp only at hSw); go_simp; try with_reducible rfl)
          try simp only [Act.put, List.getElem_toArray, List.getElem_cons_succ, List.getElem_cons_zero]
          refine wpAnyH_take (i := 4) (v := ?_) rfl (by kernel_rfl) (by kernel_rfl) (by kernel_rfl) (fun _ _ _ h => h) (Or.inl ⟨by kernel_rfl, ?_⟩) (by assumption) ?_
          rotate_left
          · (intro w' hSw; (try dsimp only at hSw); go_simp; try with_reducible rfl)
          try simp only [Act.put, List.getElem_toArray, List.getElem_cons_succ, List.getElem_cons_zero]
          refine wpAnyH_take (i := 5) (v := ?_) rfl (by kernel_rfl) (by kernel_rfl) (by kernel_rfl) (fun _ _ _ h => h) (Or.inl ⟨by kernel_rfl, ?_⟩) (by assumption) ?_
          rotate_left
          · (intro w' hSw; (try dsimp only at hSw); go_simp; try with_reducible rfl)
          try simp only [Act.put, List.getElem_toArray, List.getElem_cons_succ, List.getElem_cons_zero]
          refine wpAnyH_ready (rs := [6]) (by kernel_rfl) (by simp) ?_
          refine AllReadyH.cons rfl (fun K' hK => ?_) AllReadyH.nil
          go_simp
          refine (HL.out _).mono ?_
          rintro e wx ⟨rfl, rfl⟩
          go_wp2_with fail
          refine hK.out _ _ ⟨a1, c0, c1⟩ (fun hHeld => ?_)
          clear hK K'
          try simp only [Act.put, List.getElem_toArray, List.getElem_cons_succ, List.getElem_cons_zero]
          refine wpAnyH_take (i := 7) (v := ?_) rfl (by kernel_rfl) (by kernel_rfl) (by kernel_rfl) (fun _ _ _ h => h) (Or.inl ⟨by kernel_rfl, ?_⟩) (by assumption) ?_
          rotate_left
          · (intro w' hSw; (try dsimp only at hSw); go_simp; try with_reducible rfl)
          try simp only [Act.put, List.getElem_toArray, List.getElem_cons_succ, List.getElem_cons_zero]
          refine wpAnyH_take (i := 8) (v := ?_) rfl (by kernel_rfl) (by kernel_rfl) (by kernel_rfl) (fun _ _ _ h => h) (Or.inl ⟨by kernel_rfl, ?_⟩) (by assumption) ?_
          rotate_left
          · (intro w' hSw; (try dsimp only at hSw); go_simp; try with_reducible rfl)
          try simp only [Act.put, List.getElem_toArray, List.getElem_cons_succ, List.getElem_cons_zero]
          refine wpAnyH_take (i := 9) (v := ?_) rfl (by kernel_rfl) (by kernel_rfl) (by kernel_rfl) (fun _ _ _ h => h) (Or.inl ⟨by kernel_rfl, ?_⟩) (by assumption) ?_
          rotate_left
          · (intro w' hSw; (try dsimp only at hSw); go_simp; try with_reducible rfl)
          try simp only [Act.put, List.getElem_toArray, List.getElem_cons_succ, List.getElem_cons_zero]
          refine wpAnyH_take (i := 10) (v := ?_) rfl (by kernel_rfl) (by kernel_rfl) (by kernel_rfl) (fun _ _ _ h => h) (Or.inl ⟨by kernel_rfl, ?_⟩) (by assumption) ?_
          rotate_left
          · (intro w' hSw; (try dsimp only at hSw); go_simp; try with_reducible rfl)
          try simp only [Act.put, List.getElem_toArray, List.getElem_cons_succ, List.getElem_cons_zero]
          refine wpAnyH_take (i := 11) (v := ?_) rfl (by kernel_rfl) (by kernel_rfl) (by kernel_rfl) (fun _ _ _ h => h) (Or.inl ⟨by kernel_rfl, ?_⟩) (by assumption) ?_
          rotate_left
          · (intro w' hSw; (try dsimp only at hSw); go_simp; try with_reducible rfl)
          try simp only [Act.put, List.getElem_toArray, List.getElem_cons_succ, List.getElem_cons_zero]
          refine wpAnyH_take (i := 12) (v := ?_) rfl (by kernel_rfl) (by kernel_rfl) (by kernel_rfl) (fun _ _ _ h => h) (Or.inl ⟨by kernel_rfl, ?_⟩) (by assumption) ?_
          rotate_left
          · (intro w' hSw; (try dsimp only at hSw); go_simp; try with_reducible rfl)
          try simp only [Act.put, List.getElem_toArray, List.getElem_cons_succ, List.getElem_cons_zero]
          refine wpAnyH_take (i := 13) (v := ?_) rfl (by kernel_rfl) (by kernel_rfl) (by kernel_rfl) (fun _ _ _ h => h) (Or.inl ⟨by kernel_rfl, ?_⟩) (by assumption) ?_
          rotate_left
          · (intro w' hSw; (try dsimp only at hSw); go_simp; try with_reducible rfl)
          try simp only [Act.put, List.getElem_toArray, List.getElem_cons_succ, List.getElem_cons_zero]
          refine wpAnyH_take (i := 14) (v := ?_) rfl (by kernel_rfl) (by kernel_rfl) (by kernel_rfl) (fun _ _ _ h => h) (Or.inl ⟨by kernel_rfl, ?_⟩) (by assumption) ?_
          rotate_left
          · (intro w' hSw; (try dsimp only at hSw); go_simp; try with_reducible rfl)
          try simp only [Act.put, List.getElem_toArray, List.getElem_cons_succ, List.getElem_cons_zero]
          refine wpAnyH_take (i := 17) (v := ?_) rfl (by kernel_rfl) (by kernel_rfl) (by kernel_rfl) (fun _ _ _ h => h) (Or.inl ⟨by kernel_rfl, ?_⟩) (by assumption) ?_
          rotate_left
          · (intro w' hSw; (try dsimp only at hSw); go_simp; try with_reducible rfl)
          try simp only [Act.put, List.getElem_toArray, List.getElem_cons_succ, List.getElem_cons_zero]
          refine wpAnyH_take (i := 18) (v := ?_) rfl (by kernel_rfl) (by kernel_rfl) (by kernel_rfl) (fun _ _ _ h => h) (Or.inl ⟨by kernel_rfl, ?_⟩) (by assumption) ?_
          rotate_left
          · (intro w' hSw; (try dsimp only at hSw); go_simp; try with_reducible rfl)
          try simp only [Act.put, List.getElem_toArray, List.getElem_cons_succ, List.getElem_cons_zero]
          refine wpAnyH_ready (rs := [15]) (by kernel_rfl) (by simp) ?_
          refine AllReadyH.cons rfl (fun K' hK => ?_) AllReadyH.nil
          go_simp
          refine (HL.out _).mono ?_
          rintro e wx ⟨rfl, rfl⟩
          go_wp2_with fail
          refine hK.out _ _ ⟨a1, c0, c1⟩ (fun hHeld => ?_)
          clear hK K'
          try simp only [Act.put, List.getElem_toArray, List.getElem_cons_succ, List.getElem_cons_zero]
          refine wpAnyH_take (i := 16) (v := ?_) rfl (by kernel_rfl) (by kernel_rfl) (by kernel_rfl) (fun _ _ _ h => h) (Or.inl ⟨by kernel_rfl, ?_⟩) (by assumption) ?_
          rotate_left
          · (intro w' hSw; (try dsimp only at hSw); go_simp; try with_reducible rfl)
          try simp only [Act.put, List.getElem_toArray, List.getElem_cons_succ, List.getElem_cons_zero]
          refine wpAnyH_take (i := 19) (v := ?_) rfl (by kernel_rfl) (by kernel_rfl) (by kernel_rfl) (fun _ _ _ h => h) (Or.inl ⟨by kernel_rfl, ?_⟩) (by assumption) ?_
          rotate_left
          · (intro w' hSw; (try dsimp only at hSw); go_simp; try with_reducible rfl)
          try simp only [Act.put, List.getElem_toArray, List.getElem_cons_succ, List.getElem_cons_zero]
          refine wpAnyH_take (i := 20) (v := ?_) rfl (by kernel_rfl) (by kernel_rfl) (by kernel_rfl) (fun _ _ _ h => h) (Or.inl ⟨by kernel_rfl, ?_⟩) (by assumption) ?_
          rotate_left
          · (intro w' hSw; (try dsimp only at hSw); go_simp; try with_reducible rfl)
          try simp only [Act.put, List.getElem_toArray, List.getElem_cons_succ, List.getElem_cons_zero]
          refine wpAnyH_take (i := 21) (v := .bool true) rfl (by kernel_rfl) (by kernel_rfl) (by kernel_rfl) (fun _ _ _ h => h) (Or.inl ⟨by kernel_rfl, fun w' _ => by kernel_rfl⟩) (by assumption) ?_
          try simp only [Act.put, List.getElem_toArray, List.getElem_cons_succ, List.getElem_cons_zero]
          refine wpAnyH_take (i := 22) (v := .bool true) rfl (by kernel_rfl) (by kernel_rfl) (by kernel_rfl) (fun _ _ _ h => h) (Or.inl ⟨by kernel_rfl, fun w' _ => by kernel_rfl⟩) (by assumption) ?_
          try simp only [Act.put, List.getElem_toArray, List.getElem_cons_succ, List.getElem_cons_zero]
          refine wpAnyH_take (i := 23) (v := .bool true) rfl (by kernel_rfl) (by kernel_rfl) (by kernel_rfl) (fun _ _ _ h => h) (Or.inl ⟨by kernel_rfl, fun w' _ => by kernel_rfl⟩) (by assumption) ?_
          try simp only [Act.put, List.getElem_toArray, List.getElem_cons_succ, List.getElem_cons_zero]
          refine wpAnyH_done (by kernel_rfl) ?_ _
          simp only [List.setIfInBounds_toArray, List.set_cons_succ, List.set_cons_zero]
          go_wp2_with fail
          refine (HF.out w4).mono ?_
          rintro e w5 ⟨rfl, bx⟩
          have P1 := Lib.hid (O1.out.below bx O1.out.lt)
          have P2 := Lib.hid (O2.out.below bx O2.out.lt)
          have P3 := Lib.hid (O3.out.below bx O3.out.lt)
          have PB := Lib.hid (B3.out.trans (bx.mono B3.out.size))
          clear bx O1 O2 O3 B3 a0 a1 c0 c1 r0 r1 z0
          have O1 := Lib.hid P1.out
          have O2 := Lib.hid P2.out
          have O3 := Lib.hid P3.out
          have B3 := Lib.hid PB.out
          clear P1 P2 P3 PB
          have a0 : w5.cell? ⟨q1, 0, none⟩ = some (.int .u64 (uv al)) := O1.out.cell 0
          have a1 : w5.cell? ⟨q1, 1, none⟩ = some (.int .u64 (uv ah)) := O1.out.cell 1
          have c0 : w5.cell? ⟨q2, 0, none⟩ = some (.int .u64 (uv bl')) := O2.out.cell 0
          have c1 : w5.cell? ⟨q2, 1, none⟩ = some (.int .u64 (uv bh)) := O2.out.cell 1
          have r0 : w5.cell? ⟨q3, 0, none⟩ = some (.int .u64 0) := O3.out.cell 0
          have r1 : w5.cell? ⟨q3, 1, none⟩ = some (.int .u64 0) := O3.out.cell 1
          have z0 : ∀ i, w5.frozen? ⟨q3, i, none⟩ = false := O3.out.frozen
          go_wp2_with fail
          have hw := (B3.out.setCell (p := ⟨q3, 0, none⟩) hq.out (.int .u64 (0))).setCell (p := ⟨q3, 1, none⟩) hq.out (.int .u64 (18446744073709551615))
          have HOX := Lib.hid ((O3.out.set_ 0 (.int .u64 (0))).set_ 1 (.int .u64 (18446744073709551615)))
          generalize (w5.setCell ⟨q3, 0, none⟩ (.int .u64 (0))).setCell ⟨q3, 1, none⟩ (.int .u64 (18446744073709551615)) = wf at hw HOX ⊢
          have t0 : wf.cell? ⟨q3, 0, none⟩ = some (.int .u64 (0)) := HOX.out.cell 0
          have t1 : wf.cell? ⟨q3, 1, none⟩ = some (.int .u64 (18446744073709551615)) := HOX.out.cell 1
          exact bodyPost_ret (v := .agg #[.int .u64 (0), .int .u64 (18446744073709551615)]) (by simp [results, Try.results33, go_sem, t0, t1]) rfl ⟨by rw [HR.out] <;> first | done | rfl, hw⟩
        · have HR := Lib.hid (show V = (al <<< (uv bl').toNat, ah <<< (uv bl').toNat) by rw [← HV.out, uv_toNat]; exact (if_neg (not_not_intro h1)).trans (if_neg (fun h => h4 h.2)))
          have g5 : ¬ (64 : Int) < uv bl' := by unfold uv; omega
          have g6 : decide ((64 : Int) < uv bl') = false := decide_eq_false g5
          have g8 : decide ((64 : Int) < (bl ah : Int) + uv bl') = false := decide_eq_false (by unfold uv; omega)
          have g0 := uv_nonneg bl'
          have gN : (0 : Int) < (bl ah : Int) := by omega
          have gM : (bl ah : Int) ≤ 64 := by omega
          generalize (bl ah : Int) = N at gN gM HL g8
          have g7 : decide (0 < N) = true := decide_eq_true gN
          have hw1 : IntKind.u64.wrap N = N := by rw [IntKind.wrap_u64]; omega
          have hw2 : IntKind.u64.wrap (N + uv bl') = N + uv bl' := by rw [IntKind.wrap_u64]; omega
          clear h1 h2 h3 h4 hn0 hn1
          obtain ⟨o1, o2, o3, b3⟩ := three w (uv al) (uv ah) (uv bl') (uv bh)
          have O1 := Lib.hid o1
          have O2 := Lib.hid o2
          have O3 := Lib.hid o3
          have B3 := Lib.hid b3
          clear o1 o2 o3 b3
          have hp1 : Hid (w.heap.size ≤ w.heap.size + 1) := Lib.hid (by omega)
          have hp2 : Hid (w.heap.size ≤ w.heap.size + 2) := Lib.hid (by omega)
          go_enter Try.func33, Try.ntmps33
          go_upto_region 1 with fail
          generalize ((w.alloc (.cells #[.int .u64 (uv al), .int .u64 (uv ah)] 26)).alloc (.cells #[.int .u64 (uv bl'), .int .u64 (uv bh)] 26)).alloc (.cells #[.int .u64 0, .int .u64 0] 26) = w3 at O1 O2 O3 B3 ⊢
          obtain ⟨q1, hq1⟩ : ∃ q, w.heap.size = q := ⟨_, rfl⟩
          obtain ⟨q2, hq2⟩ : ∃ q, w.heap.size + 1 = q := ⟨_, rfl⟩
          obtain ⟨q3, hq3⟩ : ∃ q, w.heap.size + 2 = q := ⟨_, rfl⟩
          rw [hq3] at O3 hp2 ⊢
          rw [hq2] at O2 hp1 ⊢
          rw [hq1] at O1 ⊢
          have hq : Hid (w.heap.size ≤ q3) := Lib.hid (by omega)
          clear hq1 hq2 hq3 hp1 hp2
          have a0 : w3.cell? ⟨q1, 0, none⟩ = some (.int .u64 (uv al)) := O1.out.cell 0
          have a1 : w3.cell? ⟨q1, 1, none⟩ = some (.int .u64 (uv ah)) := O1.out.cell 1
          have c0 : w3.cell? ⟨q2, 0, none⟩ = some (.int .u64 (uv bl')) := O2.out.cell 0
          have c1 : w3.cell? ⟨q2, 1, none⟩ = some (.int .u64 (uv bh)) := O2.out.cell 1
          have r0 : w3.cell? ⟨q3, 0, none⟩ = some (.int .u64 0) := O3.out.cell 0
          have r1 : w3.cell? ⟨q3, 1, none⟩ = some (.int .u64 0) := O3.out.cell 1
          have z0 : ∀ i, w3.frozen? ⟨q3, i, none⟩ = false := O3.out.frozen
          refine wp_region_held_drew (S := (fun w' => w'.cell? ⟨q1, 1, none⟩ = some (.int .u64 (uv ah)) ∧ w'.cell? ⟨q2, 0, none⟩ = some (.int .u64 (uv bl')) ∧ w'.cell? ⟨q2, 1, none⟩ = some (.int .u64 (uv bh)))) (by kernel_rfl) ⟨a1, c0, c1⟩ (fun hHeld => ?_)
          refine wpAnyH_take (i := 0) (v := ?_) rfl (by kernel_rfl) (by kernel_rfl) (by kernel_rfl) (fun _ _ _ h => h) (Or.inl ⟨by kernel_rfl, ?_⟩) (by assumption) ?_
          rotate_left
          · (intro w' hSw; (try dsimp only at hSw); go_simp; try with_reducible rfl)
          try simp only [Act.put, List.getElem_toArray, List.getElem_cons_succ, List.getElem_cons_zero]
          refine wpAnyH_ready (rs := [1]) (by kernel_rfl) (by simp) ?_
          refine AllReadyH.cons rfl (fun K' hK => ?_) AllReadyH.nil
          go_simp
          refine (HS.out _).mono ?_
          rintro e w4 ⟨rfl, bb⟩
          have bx : Below w3.heap.size w3 w4 := (below_drewN (Below.refl w3.heap.size w3) 1).trans bb
          have P1 := Lib.hid (O1.out.below bx O1.out.lt)
          have P2 := Lib.hid (O2.out.below bx O2.out.lt)
          have P3 := Lib.hid (O3.out.below bx O3.out.lt)
          have PB := Lib.hid (B3.out.trans (bx.mono B3.out.size))
          clear bx bb O1 O2 O3 B3 a0 a1 c0 c1 r0 r1 z0
          have O1 := Lib.hid P1.out
          have O2 := Lib.hid P2.out
          have O3 := Lib.hid P3.out
          have B3 := Lib.hid PB.out
          clear P1 P2 P3 PB
          have a0 : w4.cell? ⟨q1, 0, none⟩ = some (.int .u64 (uv al)) := O1.out.cell 0
          have a1 : w4.cell? ⟨q1, 1, none⟩ = some (.int .u64 (uv ah)) := O1.out.cell 1
          have c0 : w4.cell? ⟨q2, 0, none⟩ = some (.int .u64 (uv bl')) := O2.out.cell 0
          have c1 : w4.cell? ⟨q2, 1, none⟩ = some (.int .u64 (uv bh)) := O2.out.cell 1
          have r0 : w4.cell? ⟨q3, 0, none⟩ = some (.int .u64 0) := O3.out.cell 0
          have r1 : w4.cell? ⟨q3, 1, none⟩ = some (.int .u64 0) := O3.out.cell 1
          have z0 : ∀ i, w4.frozen? ⟨q3, i, none⟩ = false := O3.out.frozen
          go_wp2_with fail
          refine hK.out _ _ ⟨a1, c0, c1⟩ (fun hHeld => ?_)
          clear hK K'
          try simp only [Act.put, List.getElem_toArray, List.getElem_cons_succ, List.getElem_cons_zero]
          refine wpAnyH_take (i := 2) (v := ?_) rfl (by kernel_rfl) (by kernel_rfl) (by kernel_rfl) (fun _ _ _ h => h) (Or.inl ⟨by kernel_rfl, ?_⟩) (by assumption) ?_
          rotate_left
          · (intro w' hSw; (try dsimp only at hSw); go_simp; try with_reducible rfl)
          try simp only [Act.put, List.getElem_toArray, List.getElem_cons_succ, List.getElem_cons_zero]
          refine wpAnyH_take (i := 3) (v := ?_) rfl (by kernel_rfl) (by kernel_rfl) (by kernel_rfl) (fun _ _ _ h => h) (Or.inl ⟨by kernel_rfl, ?_⟩) (by assumption) ?_
          rotate_left
          · (intro w' hSw; (try dsimp only at hSw); go_simp; try with_reducible rfl)
          try simp only [Act.put, List.getElem_toArray, List.getElem_cons_succ, List.getElem_cons_zero]
          refine wpAnyH_take (i := 4) (v := ?_) rfl (by kernel_rfl) (by kernel_rfl) (by kernel_rfl) (fun _ _ _ h => h) (Or.inl ⟨by kernel_rfl, ?_⟩) (by assumption) ?_
          rotate_left
          · (intro w' hSw; (try dsimp only at hSw); go_simp; try with_reducible rfl)
          try simp only [Act.put, List.getElem_toArray, List.getElem_cons_succ, List.getElem_cons_zero]
          refine wpAnyH_take (i := 5) (v := ?_) rfl (by kernel_rfl) (by kernel_rfl) (by kernel_rfl) (fun _ _ _ h => h) (Or.inl ⟨by kernel_rfl, ?_⟩) (by assumption) ?_
          rotate_left
          · (intro w' hSw; (try dsimp only at hSw); go_simp; try with_reducible rfl)
          try simp only [Act.put, List.getElem_toArray, List.getElem_cons_succ, List.getElem_cons_zero]
          refine wpAnyH_ready (rs := [6]) (by kernel_rfl) (by simp) ?_
          refine AllReadyH.cons rfl (fun K' hK => ?_) AllReadyH.nil
          go_simp
          refine (HL.out _).mono ?_
          rintro e wx ⟨rfl, rfl⟩
          go_wp2_with fail
          refine hK.out _ _ ⟨a1, c0, c1⟩ (fun hHeld => ?_)
          clear hK K'
          try simp only [Act.put, List.getElem_toArray, List.getElem_cons_succ, List.getElem_cons_zero]
          refine wpAnyH_take (i := 7) (v := ?_) rfl (by kernel_rfl) (by kernel_rfl) (by kernel_rfl) (fun _ _ _ h => h) (Or.inl ⟨by kernel_rfl, ?_⟩) (by assumption) ?_
          rotate_left
          · (intro w' hSw; (try dsimp only at hSw); go_simp; try with_reducible rfl)
          try simp only [Act.put, List.getElem_toArray, List.getElem_cons_succ, List.getElem_cons_zero]
          refine wpAnyH_take (i := 8) (v := ?_) rfl (by kernel_rfl) (by kernel_rfl) (by kernel_rfl) (fun _ _ _ h => h) (Or.inl ⟨by kernel_rfl, ?_⟩) (by assumption) ?_
          rotate_left
          · (intro w' hSw; (try dsimp only at hSw); go_simp; try with_reducible rfl)
          try simp only [Act.put, List.getElem_toArray, List.getElem_cons_succ, List.getElem_cons_zero]
          refine wpAnyH_take (i := 9) (v := ?_) rfl (by kernel_rfl) (by kernel_rfl) (by kernel_rfl) (fun _ _ _ h => h) (Or.inl ⟨by kernel_rfl, ?_⟩) (by assumption) ?_
          rotate_left
          · (intro w' hSw; (try dsimp only at hSw); go_simp; try with_reducible rfl)
          try simp only [Act.put, List.getElem_toArray, List.getElem_cons_succ, List.getElem_cons_zero]
          refine wpAnyH_take (i := 10) (v := ?_) rfl (by kernel_rfl) (by kernel_rfl) (by kernel_rfl) (fun _ _ _ h => h) (Or.inl ⟨by kernel_rfl, ?_⟩) (by assumption) ?_
          rotate_left
          · (intro w' hSw; (try dsimp only at hSw); go_simp; try with_reducible rfl)
          try simp only [Act.put, List.getElem_toArray, List.getElem_cons_succ, List.getElem_cons_zero]
          refine wpAnyH_take (i := 11) (v := ?_) rfl (by kernel_rfl) (by kernel_rfl) (by kernel_rfl) (fun _ _ _ h => h) (Or.inl ⟨by kernel_rfl, ?_⟩) (by assumption) ?_
          rotate_left
          · (intro w' hSw; (try dsimp only at hSw); go_simp; try with_reducible rfl)
          try simp only [Act.put, List.getElem_toArray, List.getElem_cons_succ, List.getElem_cons_zero]
          refine wpAnyH_take (i := 12) (v := ?_) rfl (by kernel_rfl) (by kernel_rfl) (by kernel_rfl) (fun _ _ _ h => h) (Or.inl ⟨by kernel_rfl, ?_⟩) (by assumption) ?_
          rotate_left
          · (intro w' hSw; (try dsimp only at hSw); go_simp; try with_reducible rfl)
          try simp only [Act.put, List.getElem_toArray, List.getElem_cons_succ, List.getElem_cons_zero]
          refine wpAnyH_take (i := 13) (v := ?_) rfl (by kernel_rfl) (by kernel_rfl) (by kernel_rfl) (fun _ _ _ h => h) (Or.inl ⟨by kernel_rfl, ?_⟩) (by assumption) ?_
          rotate_left
          · (intro w' hSw; (try dsimp only at hSw); go_simp; try with_reducible rfl)
          try simp only [Act.put, List.getElem_toArray, List.getElem_cons_succ, List.getElem_cons_zero]
          refine wpAnyH_take (i := 14) (v := ?_) rfl (by kernel_rfl) (by kernel_rfl) (by kernel_rfl) (fun _ _ _ h => h) (Or.inl ⟨by kernel_rfl, ?_⟩) (by assumption) ?_
          rotate_left
          · (intro w' hSw; (try dsimp only at hSw); go_simp; try with_reducible rfl)
          try simp only [Act.put, List.getElem_toArray, List.getElem_cons_succ, List.getElem_cons_zero]
          refine wpAnyH_take (i := 17) (v := ?_) rfl (by kernel_rfl) (by kernel_rfl) (by kernel_rfl) (fun _ _ _ h => h) (Or.inl ⟨by kernel_rfl, ?_⟩) (by assumption) ?_
          rotate_left
          · (intro w' hSw; (try dsimp only at hSw); go_simp; try with_reducible rfl)
          try simp only [Act.put, List.getElem_toArray, List.getElem_cons_succ, List.getElem_cons_zero]
          refine wpAnyH_take (i := 18) (v := ?_) rfl (by kernel_rfl) (by kernel_rfl) (by kernel_rfl) (fun _ _ _ h => h) (Or.inl ⟨by kernel_rfl, ?_⟩) (by assumption) ?_
          rotate_left
          · (intro w' hSw; (try dsimp only at hSw); go_simp; try with_reducible rfl)
          try simp only [Act.put, List.getElem_toArray, List.getElem_cons_succ, List.getElem_cons_zero]
          refine wpAnyH_ready (rs := [15]) (by kernel_rfl) (by simp) ?_
          refine AllReadyH.cons rfl (fun K' hK => ?_) AllReadyH.nil
          go_simp
          refine (HL.out _).mono ?_
          rintro e wx ⟨rfl, rfl⟩
          go_wp2_with fail
          refine hK.out _ _ ⟨a1, c0, c1⟩ (fun hHeld => ?_)
          clear hK K'
          try simp only [Act.put, List.getElem_toArray, List.getElem_cons_succ, List.getElem_cons_zero]
          refine wpAnyH_take (i := 16) (v := ?_) rfl (by kernel_rfl) (by kernel_rfl) (by kernel_rfl) (fun _ _ _ h => h) (Or.inl ⟨by kernel_rfl, ?_⟩) (by assumption) ?_
          rotate_left
          · (intro w' hSw; (try dsimp only at hSw); go_simp; try with_reducible rfl)
          try simp only [Act.put, List.getElem_toArray, List.getElem_cons_succ, List.getElem_cons_zero]
          refine wpAnyH_take (i := 19) (v := ?_) rfl (by kernel_rfl) (by kernel_rfl) (by kernel_rfl) (fun _ _ _ h => h) (Or.inl ⟨by kernel_rfl, ?_⟩) (by assumption) ?_
          rotate_left
          · (intro w' hSw; (try dsimp only at hSw); go_simp; try with_reducible rfl)
          try simp only [Act.put, List.getElem_toArray, List.getElem_cons_succ, List.getElem_cons_zero]
          refine wpAnyH_take (i := 20) (v := ?_) rfl (by kernel_rfl) (by kernel_rfl) (by kernel_rfl) (fun _ _ _ h => h) (Or.inl ⟨by kernel_rfl, ?_⟩) (by assumption) ?_
          rotate_left
          · (intro w' hSw; (try dsimp only at hSw); go_simp; try with_reducible rfl)
          try simp only [Act.put, List.getElem_toArray, List.getElem_cons_succ, List.getElem_cons_zero]
          refine wpAnyH_take (i := 21) (v := .bool false) rfl (by kernel_rfl) (by kernel_rfl) (by kernel_rfl) (fun _ _ _ h => h) (Or.inl ⟨by kernel_rfl, fun w' _ => by kernel_rfl⟩) (by assumption) ?_
          try simp only [Act.put, List.getElem_toArray, List.getElem_cons_succ, List.getElem_cons_zero]
          refine wpAnyH_take (i := 22) (v := .bool false) rfl (by kernel_rfl) (by kernel_rfl) (by kernel_rfl) (fun _ _ _ h => h) (Or.inl ⟨by kernel_rfl, fun w' _ => by kernel_rfl⟩) (by assumption) ?_
          try simp only [Act.put, List.getElem_toArray, List.getElem_cons_succ, List.getElem_cons_zero]
          refine wpAnyH_take (i := 23) (v := .bool false) rfl (by kernel_rfl) (by kernel_rfl) (by kernel_rfl) (fun _ _ _ h => h) (Or.inl ⟨by kernel_rfl, fun w' _ => by kernel_rfl⟩) (by assumption) ?_
          try simp only [Act.put, List.getElem_toArray, List.getElem_cons_succ, List.getElem_cons_zero]
          refine wpAnyH_done (by kernel_rfl) ?_ _
          simp only [List.setIfInBounds_toArray, List.set_cons_succ, List.set_cons_zero]
          go_wp2_with fail
          have hw := (B3.out.setCell (p := ⟨q3, 0, none⟩) hq.out (.int .u64 (uv (al <<< (uv bl').toNat)))).setCell (p := ⟨q3, 1, none⟩) hq.out (.int .u64 (uv (ah <<< (uv bl').toNat)))
          have HOX := Lib.hid ((O3.out.set_ 0 (.int .u64 (uv (al <<< (uv bl').toNat)))).set_ 1 (.int .u64 (uv (ah <<< (uv bl').toNat))))
          generalize (w4.setCell ⟨q3, 0, none⟩ (.int .u64 (uv (al <<< (uv bl').toNat)))).setCell ⟨q3, 1, none⟩ (.int .u64 (uv (ah <<< (uv bl').toNat))) = wf at hw HOX ⊢
          have t0 : wf.cell? ⟨q3, 0, none⟩ = some (.int .u64 (uv (al <<< (uv bl').toNat))) := HOX.out.cell 0
          have t1 : wf.cell? ⟨q3, 1, none⟩ = some (.int .u64 (uv (ah <<< (uv bl').toNat))) := HOX.out.cell 1
          exact bodyPost_ret (v := .agg #[.int .u64 (uv (al <<< (uv bl').toNat)), .int .u64 (uv (ah <<< (uv bl').toNat))]) (by simp [results, Try.results33, go_sem, t0, t1]) rfl ⟨by rw [HR.out] <;> first | done | rfl, hw⟩

set_option maxRecDepth 100000 in
set_option maxHeartbeats 4000000 in
theorem shifted_any (w : World) (al ah k : BitVec 64) (hle : al.toNat ≤ ah.toNat) :
    Calls Try.prog 37 #[spVal (uv al) (uv ah), .int .u64 (uv k)] w fun e w' => e = .returned (.tuple #[spVal (uv (shfV al ah k).1) (uv (shfV al ah k).2), .bool (decide ¬ shfNo ah k)]) ∧ Below w.heap.size w w' := by
  obtain ⟨V, hV⟩ : ∃ V, shfV al ah k = V := ⟨_, rfl⟩
  obtain ⟨ok, hok⟩ : ∃ ok, decide (¬ shfNo ah k) = ok := ⟨_, rfl⟩
  rw [hV, hok]
  have HN := Lib.hid (show ∀ h : shfNo ah k, V = (0#64, 0#64) ∧ ok = false from fun h => ⟨by rw [← hV]; exact if_pos h, by rw [← hok]; exact decide_eq_false fun h2 => h2 h⟩)
  have HY := Lib.hid (show ∀ h : ¬ shfNo ah k, V = (al <<< k.toNat, ah <<< k.toNat) ∧ ok = true from fun h => ⟨by rw [← hV]; exact if_neg h, by rw [← hok]; exact decide_eq_true h⟩)
  have HLE := Lib.hid hle
  clear hV hok hle
  unfold spVal
  obtain ⟨o1, o2, b3⟩ := two w (uv al) (uv ah)
  have O1 := Lib.hid o1
  have O2 := Lib.hid o2
  have B3 := Lib.hid b3
  clear o1 o2 b3
  have hp1 : Hid (w.heap.size ≤ w.heap.size + 1) := Lib.hid (by omega)
  have hne : Hid (w.heap.size ≠ w.heap.size + 1) := Lib.hid (by omega)
  go_enter Try.func37, Try.ntmps37
  go_upto_region 1 with fail
  generalize (w.alloc (.cells #[.int .u64 (uv al), .int .u64 (uv ah)] 26)).alloc (.cells #[.int .u64 0, .int .u64 0] 26) = w3 at O1 O2 B3 ⊢
  obtain ⟨q1, hq1⟩ : ∃ q, w.heap.size = q := ⟨_, rfl⟩
  obtain ⟨q2, hq2⟩ : ∃ q, w.heap.size + 1 = q := ⟨_, rfl⟩
  rw [hq2] at O2 hp1 hne ⊢
  rw [hq1] at O1 hne ⊢
  have HQ1 : Hid (w.heap.size ≤ q1) := Lib.hid (by omega)
  have HQ2 := Lib.hid hp1.out
  clear hq1 hq2 hp1
  go_wp2_with fail
  go_loopw [6] (fun i wr => ∃ j : Nat, j ≤ k.toNat ∧ i = .int .u64 j ∧ (ah ≠ 0#64 → bl ah + j ≤ 64) ∧ Ob wr q1 26 [.int .u64 (uv (al <<< j)), .int .u64 (uv (ah <<< j))] ∧ Ob wr q2 26 [.int .u64 0, .int .u64 0] ∧ Below w.heap.size w wr) (fun i _ => k.toNat - (intOf i).toNat)
  case atStart => exact ⟨0, Nat.zero_le _, rfl, fun _ => bl_le64 ah, by rw [BitVec.shiftLeft_zero, BitVec.shiftLeft_zero]; exact O1.out, O2.out, B3.out⟩
  case round =>
    obtain ⟨j, hj, rfl, hf, o1, o2, b⟩ := hrel
    have HF := Lib.hid hf
    have P1 := Lib.hid o1
    have P2 := Lib.hid o2
    have PB := Lib.hid b
    clear hf o1 o2 b O1 O2 B3
    have hkl := k.isLt
    have a0 : wr.cell? ⟨q1, 0, none⟩ = some (.int .u64 (uv (al <<< j))) := P1.out.cell 0
    have a1 : wr.cell? ⟨q1, 1, none⟩ = some (.int .u64 (uv (ah <<< j))) := P1.out.cell 1
    have zz : ∀ i, wr.frozen? ⟨q1, i, none⟩ = false := P1.out.frozen
    have r0 : wr.cell? ⟨q2, 0, none⟩ = some (.int .u64 0) := P2.out.cell 0
    have r1 : wr.cell? ⟨q2, 1, none⟩ = some (.int .u64 0) := P2.out.cell 1
    have z0 : ∀ i, wr.frozen? ⟨q2, i, none⟩ = false := P2.out.frozen
    by_cases hlt : j < k.toNat
    · have g1 := nat_lt_uv hlt
      by_cases hz : ah <<< j = 0#64
      · have g2 := uv_npos hz
        have HZ := Lib.hid hz
        have HA0 : Hid (ah = 0#64) := Lib.hid (by
          refine Decidable.byContradiction fun h => ?_
          have h1 := fits_nat (HF.out h)
          rw [HZ.out] at h1
          have h2 : 0 < ah.toNat * 2 ^ j := Nat.mul_pos (by have : ah.toNat ≠ 0 := fun e => h (BitVec.eq_of_toNat_eq (by simpa using e)); omega) (Nat.two_pow_pos j)
          simp at h1
          omega)
        have HA1 : Hid (al = 0#64) := Lib.hid (BitVec.eq_of_toNat_eq (by have h := HLE.out; rw [HA0.out] at h; simpa using h))
        have HR := Lib.hid (HY.out (fun h => h.1 HA0.out))
        clear hz hlt
        go_wp2_with fail
        have hw := (PB.out.setCell (p := ⟨q2, 0, none⟩) HQ2.out (.int .u64 (uv (al <<< j)))).setCell (p := ⟨q2, 1, none⟩) HQ2.out (.int .u64 (uv (ah <<< j)))
        have HOX := Lib.hid ((P2.out.set_ 0 (.int .u64 (uv (al <<< j)))).set_ 1 (.int .u64 (uv (ah <<< j))))
        generalize (wr.setCell ⟨q2, 0, none⟩ (.int .u64 (uv (al <<< j)))).setCell ⟨q2, 1, none⟩ (.int .u64 (uv (ah <<< j))) = wf at hw HOX ⊢
        have t0 : wf.cell? ⟨q2, 0, none⟩ = some (.int .u64 (uv (al <<< j))) := HOX.out.cell 0
        have t1 : wf.cell? ⟨q2, 1, none⟩ = some (.int .u64 (uv (ah <<< j))) := HOX.out.cell 1
        exact bodyPost_ret (v := .tuple #[.agg #[.int .u64 (uv (al <<< j)), .int .u64 (uv (ah <<< j))], .bool true]) (by simp [results, Try.results37, go_sem, t0, t1]) rfl ⟨by rw [HR.out.1, HR.out.2]; rw [HA0.out, HA1.out]; simp only [BitVec.zero_shiftLeft] <;> first | done | rfl, hw⟩
      · have g2 := uv_pos hz
        have HA0 : Hid (ah ≠ 0#64) := Lib.hid (fun h => hz (by rw [h, BitVec.zero_shiftLeft]))
        clear hz
        by_cases hs : (ah <<< j).toNat < 9223372036854775808
        · have g3 : decide ((9223372036854775807 : Int) < uv (ah <<< j)) = false := decide_eq_false (by unfold uv; omega)
          have HM := Lib.hid (fits_more HA0.out (HF.out HA0.out) hs)
          have g4 := uv_2shl al j
          have g5 := uv_2shl ah j
          clear hs
          go_wp2_with fail
          go_roundw
          case rel => exact ⟨j + 1, by omega, by go_num, fun _ => HM.out, (P1.out.set_ 0 (.int .u64 (uv (al <<< (j + 1))))).set_ 1 (.int .u64 (uv (ah <<< (j + 1)))), (P2.out.far (p := ⟨q1, 0, none⟩) (fun e => hne.out e.symm) _).far (p := ⟨q1, 1, none⟩) (fun e => hne.out e.symm) _, (PB.out.setCell (p := ⟨q1, 0, none⟩) HQ1.out _).setCell (p := ⟨q1, 1, none⟩) HQ1.out _⟩
          case measure => simp [intOf]; omega
        · have g3 : decide ((9223372036854775807 : Int) < uv (ah <<< j)) = true := decide_eq_true (by unfold uv; omega)
          have HR := Lib.hid (HN.out (fits_full (HF.out HA0.out) hs hlt))
          clear hs hlt
          go_wp2_with fail
          have hw := (PB.out.setCell (p := ⟨q2, 0, none⟩) HQ2.out (.int .u64 (0))).setCell (p := ⟨q2, 1, none⟩) HQ2.out (.int .u64 (0))
          have HOX := Lib.hid ((P2.out.set_ 0 (.int .u64 (0))).set_ 1 (.int .u64 (0)))
          generalize (wr.setCell ⟨q2, 0, none⟩ (.int .u64 (0))).setCell ⟨q2, 1, none⟩ (.int .u64 (0)) = wf at hw HOX ⊢
          have t0 : wf.cell? ⟨q2, 0, none⟩ = some (.int .u64 (0)) := HOX.out.cell 0
          have t1 : wf.cell? ⟨q2, 1, none⟩ = some (.int .u64 (0)) := HOX.out.cell 1
          exact bodyPost_ret (v := .tuple #[.agg #[.int .u64 (0), .int .u64 (0)], .bool false]) (by simp [results, Try.results37, go_sem, t0, t1]) rfl ⟨by rw [HR.out.1, HR.out.2] <;> first | done | rfl, hw⟩
    · have g1 := nat_nlt_uv hlt
      have HE : Hid (j = k.toNat) := Lib.hid (by omega)
      have HR := Lib.hid (HY.out (fun h => by have h1 := HF.out h.1; have h2 := h.2; rw [← HE.out] at h2; omega))
      clear hlt
      go_wp2_with fail
      have hw := (PB.out.setCell (p := ⟨q2, 0, none⟩) HQ2.out (.int .u64 (uv (al <<< j)))).setCell (p := ⟨q2, 1, none⟩) HQ2.out (.int .u64 (uv (ah <<< j)))
      have HOX := Lib.hid ((P2.out.set_ 0 (.int .u64 (uv (al <<< j)))).set_ 1 (.int .u64 (uv (ah <<< j))))
      generalize (wr.setCell ⟨q2, 0, none⟩ (.int .u64 (uv (al <<< j)))).setCell ⟨q2, 1, none⟩ (.int .u64 (uv (ah <<< j))) = wf at hw HOX ⊢
      have t0 : wf.cell? ⟨q2, 0, none⟩ = some (.int .u64 (uv (al <<< j))) := HOX.out.cell 0
      have t1 : wf.cell? ⟨q2, 1, none⟩ = some (.int .u64 (uv (ah <<< j))) := HOX.out.cell 1
      exact bodyPost_ret (v := .tuple #[.agg #[.int .u64 (uv (al <<< j)), .int .u64 (uv (ah <<< j))], .bool true]) (by simp [results, Try.results37, go_sem, t0, t1]) rfl ⟨by rw [HR.out.1, HR.out.2]; rw [HE.out] <;> first | done | rfl, hw⟩

end Go.Proofs.Ytchlokhmcadgaaa
