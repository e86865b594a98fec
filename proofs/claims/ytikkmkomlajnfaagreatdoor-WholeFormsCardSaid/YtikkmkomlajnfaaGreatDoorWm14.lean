/-
  Layer 6: the walks of left and of the document's shifted. Conditions: those of each theorem.
-/
import Derived.Test.YtikkmkomlajnfaaGreatDoorWm01
import Derived.Test.YtikkmkomlajnfaaGreatDoorWm13
set_option linter.unusedVariables false
set_option linter.unusedSimpArgs false
section
namespace Go.Proofs.YtikkmkomlajnfaaGreatDoor.Sp
set_option maxRecDepth 100000
set_option maxHeartbeats 2000000
open Go.RowKit

attribute [local go_sem] uv_nonneg uv_wrap uv_add uv_sub uv_mul uv_add1 uv_sub1 uv_and uv_or uv_xor uv_andNot uv_and1 uv_not uv_notMax u64_signed uv_shr uv_shr1 uv_shl uv_shr63 uv_shl1 uv_1shl uv_tdiv uv_tdiv2 uv_tmod uv_shlMin uv_shrMin uv_div uv_mod uv_minM uv_maxM

def shfNo (ah k : BitVec 64) : Prop := ah ≠ 0#64 ∧ 64 < bl ah + k.toNat
instance (ah k : BitVec 64) : Decidable (shfNo ah k) := inferInstanceAs (Decidable (_ ∧ _))
/-- two blocks of two cells each -/
theorem two (w : World) (a b : Int) :
 Ob ((w.alloc (.cells #[.int .u64 a, .int .u64 b] 132)).alloc (.cells #[.int .u64 0, .int .u64 0] 132)) w.heap.size 132 [.int .u64 a, .int .u64 b] ∧
 Ob ((w.alloc (.cells #[.int .u64 a, .int .u64 b] 132)).alloc (.cells #[.int .u64 0, .int .u64 0] 132)) (w.heap.size + 1) 132 [.int .u64 0, .int .u64 0] ∧
 Below w.heap.size w ((w.alloc (.cells #[.int .u64 a, .int .u64 b] 132)).alloc (.cells #[.int .u64 0, .int .u64 0] 132)) := by
 refine ⟨(Ob.fresh w 132 [.int .u64 a, .int .u64 b]).alloc _, ?_, below_alloc (below_alloc (Below.refl _ _) _) _⟩
 have h := Ob.fresh (w.alloc (.cells #[.int .u64 a, .int .u64 b] 132)) 132 [.int .u64 0, .int .u64 0]
 simpa using h

theorem left_any (w : World) (al ah bl' bh : BitVec 64) : Calls Tryz.prog 131 #[spVal (uv al) (uv ah), spVal (uv bl') (uv bh)] w fun e w' => e = .returned (spVal (uv (shlV al ah bl' bh).1) (uv (shlV al ah bl' bh).2)) ∧ Below w.heap.size w w' := by
 obtain ⟨V, hV⟩ : ∃ V, shlV al ah bl' bh = V := ⟨_, rfl⟩
 rw [hV]
 have HV := Lib.hid hV
 clear hV
 have HF := Lib.hid (fun w => full_any w)
 unfold spVal at HF ⊢
 by_cases h1 : bl' ≠ bh
 · have HS := Lib.hid (fun w => isone_any w (uv bl') (uv bh))
   rw [show (uv bl' == uv bh) = false by rw [uv_beq]; exact decide_eq_false h1] at HS
   unfold spVal at HS
   have HR := Lib.hid (show V = (0#64, mostB) by rw [← HV.out]; exact if_pos h1)
   clear h1
   go_enter Tryz.func131, Tryz.ntmps131
   go_upto_region 1 with fail
   obtain ⟨w3, q1, q2, q3, hw3, hq1, hq2, hq3, O1, O2, O3, B3, hq, -, -, -, -⟩ := thr w (uv al) (uv ah) (uv bl') (uv bh)
   rw [hw3, hq3, hq2, hq1]
   clear hw3 hq1 hq2 hq3
   obtain ⟨a0, a1, c0, c1, r0, r1, z0⟩ := fc3 O1 O2 O3
   refine wp_region_held_drew (S := (fun w' => w'.cell? ⟨q1, 1, none⟩ = some (.int .u64 (uv ah)) ∧ w'.cell? ⟨q2, 0, none⟩ = some (.int .u64 (uv bl')) ∧ w'.cell? ⟨q2, 1, none⟩ = some (.int .u64 (uv bh)))) (by kernel_rfl) ⟨a1, c0, c1⟩ (fun hHeld => ?_)
   refine wpAnyH_take (i := 0) (v := ?_) rfl (by kernel_rfl) (by kernel_rfl) (by kernel_rfl) (fun _ _ _ h => h) (Or.inl ⟨by kernel_rfl, ?_⟩) (by assumption) ?_
   rotate_left
   · (intro w' hSw; (try dsimp only at hSw); go_simp; try with_reducible rfl)
   try simp only [Act.put, gpa, gpb, gpc]
   refine wpAnyH_ready (rs := [1]) (by kernel_rfl) (by simp) ?_
   refine AllReadyH.cons rfl (fun K' hK => ?_) AllReadyH.nil
   go_simp
   refine (HS.out _).mono ?_
   rintro e w4 ⟨rfl, bb⟩
   have bx : Below w3.heap.size w3 w4 := (below_drewN (Below.refl w3.heap.size w3) 1).trans bb
   have P := nx3 bx O1 O2 O3 B3
   clear bx bb O1 O2 O3 B3 a0 a1 c0 c1 r0 r1 z0
   obtain ⟨O1, O2, O3, B3⟩ := P
   obtain ⟨a0, a1, c0, c1, r0, r1, z0⟩ := fc3 O1 O2 O3
   go_wp2_with fail
   refine hK.out _ _ ⟨a1, c0, c1⟩ (fun hHeld => ?_)
   clear hK K'
   try simp only [Act.put, gpa, gpb, gpc]
   refine wpAnyH_take (i := 2) (v := ?_) rfl (by kernel_rfl) (by kernel_rfl) (by kernel_rfl) (fun _ _ _ h => h) (Or.inl ⟨by kernel_rfl, ?_⟩) (by assumption) ?_
   rotate_left
   · (intro w' hSw; (try dsimp only at hSw); go_simp; try with_reducible rfl)
   try simp only [Act.put, gpa, gpb, gpc]
   refine wpAnyH_take (i := 3) (v := ?_) rfl (by kernel_rfl) (by kernel_rfl) (by kernel_rfl) (fun _ _ _ h => h) (Or.inl ⟨by kernel_rfl, ?_⟩) (by assumption) ?_
   rotate_left
   · (intro w' hSw; (try dsimp only at hSw); go_simp; try with_reducible rfl)
   try simp only [Act.put, gpa, gpb, gpc]
   refine wpAnyH_take (i := 4) (v := undef) rfl (by kernel_rfl) (by kernel_rfl) (by kernel_rfl) (fun _ _ _ h => h) (Or.inr ⟨by kernel_rfl, rfl⟩) (by assumption) ?_
   try simp only [Act.put, gpa, gpb, gpc]
   refine wpAnyH_take (i := 5) (v := undef) rfl (by kernel_rfl) (by kernel_rfl) (by kernel_rfl) (fun _ _ _ h => h) (Or.inr ⟨by kernel_rfl, rfl⟩) (by assumption) ?_
   try simp only [Act.put, gpa, gpb, gpc]
   refine wpAnyH_take (i := 6) (v := undef) rfl (by kernel_rfl) (by kernel_rfl) (by kernel_rfl) (fun _ _ _ h => h) (Or.inr ⟨by kernel_rfl, rfl⟩) (by assumption) ?_
   try simp only [Act.put, gpa, gpb, gpc]
   refine wpAnyH_take (i := 7) (v := undef) rfl (by kernel_rfl) (by kernel_rfl) (by kernel_rfl) (fun _ _ _ h => h) (Or.inr ⟨by kernel_rfl, rfl⟩) (by assumption) ?_
   try simp only [Act.put, gpa, gpb, gpc]
   refine wpAnyH_take (i := 8) (v := undef) rfl (by kernel_rfl) (by kernel_rfl) (by kernel_rfl) (fun _ _ _ h => h) (Or.inr ⟨by kernel_rfl, rfl⟩) (by assumption) ?_
   try simp only [Act.put, gpa, gpb, gpc]
   refine wpAnyH_take (i := 9) (v := undef) rfl (by kernel_rfl) (by kernel_rfl) (by kernel_rfl) (fun _ _ _ h => h) (Or.inr ⟨by kernel_rfl, rfl⟩) (by assumption) ?_
   try simp only [Act.put, gpa, gpb, gpc]
   refine wpAnyH_take (i := 10) (v := undef) rfl (by kernel_rfl) (by kernel_rfl) (by kernel_rfl) (fun _ _ _ h => h) (Or.inr ⟨by kernel_rfl, rfl⟩) (by assumption) ?_
   try simp only [Act.put, gpa, gpb, gpc]
   refine wpAnyH_take (i := 11) (v := undef) rfl (by kernel_rfl) (by kernel_rfl) (by kernel_rfl) (fun _ _ _ h => h) (Or.inr ⟨by kernel_rfl, rfl⟩) (by assumption) ?_
   try simp only [Act.put, gpa, gpb, gpc]
   refine wpAnyH_take (i := 12) (v := undef) rfl (by kernel_rfl) (by kernel_rfl) (by kernel_rfl) (fun _ _ _ h => h) (Or.inr ⟨by kernel_rfl, rfl⟩) (by assumption) ?_
   try simp only [Act.put, gpa, gpb, gpc]
   refine wpAnyH_take (i := 13) (v := undef) rfl (by kernel_rfl) (by kernel_rfl) (by kernel_rfl) (fun _ _ _ h => h) (Or.inr ⟨by kernel_rfl, rfl⟩) (by assumption) ?_
   try simp only [Act.put, gpa, gpb, gpc]
   refine wpAnyH_take (i := 14) (v := undef) rfl (by kernel_rfl) (by kernel_rfl) (by kernel_rfl) (fun _ _ _ h => h) (Or.inr ⟨by kernel_rfl, rfl⟩) (by assumption) ?_
   try simp only [Act.put, gpa, gpb, gpc]
   refine wpAnyH_take (i := 15) (v := undef) rfl (by kernel_rfl) (by kernel_rfl) (by kernel_rfl) (fun _ _ _ h => h) (Or.inr ⟨by kernel_rfl, rfl⟩) (by assumption) ?_
   try simp only [Act.put, gpa, gpb, gpc]
   refine wpAnyH_take (i := 16) (v := undef) rfl (by kernel_rfl) (by kernel_rfl) (by kernel_rfl) (fun _ _ _ h => h) (Or.inr ⟨by kernel_rfl, rfl⟩) (by assumption) ?_
   try simp only [Act.put, gpa, gpb, gpc]
   refine wpAnyH_take (i := 17) (v := undef) rfl (by kernel_rfl) (by kernel_rfl) (by kernel_rfl) (fun _ _ _ h => h) (Or.inr ⟨by kernel_rfl, rfl⟩) (by assumption) ?_
   try simp only [Act.put, gpa, gpb, gpc]
   refine wpAnyH_take (i := 18) (v := undef) rfl (by kernel_rfl) (by kernel_rfl) (by kernel_rfl) (fun _ _ _ h => h) (Or.inr ⟨by kernel_rfl, rfl⟩) (by assumption) ?_
   try simp only [Act.put, gpa, gpb, gpc]
   refine wpAnyH_take (i := 19) (v := undef) rfl (by kernel_rfl) (by kernel_rfl) (by kernel_rfl) (fun _ _ _ h => h) (Or.inr ⟨by kernel_rfl, rfl⟩) (by assumption) ?_
   try simp only [Act.put, gpa, gpb, gpc]
   refine wpAnyH_take (i := 20) (v := undef) rfl (by kernel_rfl) (by kernel_rfl) (by kernel_rfl) (fun _ _ _ h => h) (Or.inr ⟨by kernel_rfl, rfl⟩) (by assumption) ?_
   try simp only [Act.put, gpa, gpb, gpc]
   refine wpAnyH_take (i := 21) (v := undef) rfl (by kernel_rfl) (by kernel_rfl) (by kernel_rfl) (fun _ _ _ h => h) (Or.inr ⟨by kernel_rfl, rfl⟩) (by assumption) ?_
   try simp only [Act.put, gpa, gpb, gpc]
   refine wpAnyH_take (i := 22) (v := undef) rfl (by kernel_rfl) (by kernel_rfl) (by kernel_rfl) (fun _ _ _ h => h) (Or.inr ⟨by kernel_rfl, rfl⟩) (by assumption) ?_
   try simp only [Act.put, gpa, gpb, gpc]
   refine wpAnyH_take (i := 23) (v := .bool true) rfl (by kernel_rfl) (by kernel_rfl) (by kernel_rfl) (fun _ _ _ h => h) (Or.inl ⟨by kernel_rfl, fun w' _ => by kernel_rfl⟩) (by assumption) ?_
   try simp only [Act.put, gpa, gpb, gpc]
   refine wpAnyH_done (by kernel_rfl) ?_ _
   simp only [List.setIfInBounds_toArray, List.set_cons_succ, List.set_cons_zero]
   go_wp2_with fail
   refine (HF.out w4).mono ?_
   rintro e w5 ⟨rfl, bx⟩
   have P := nx3 bx O1 O2 O3 B3
   clear bx O1 O2 O3 B3 a0 a1 c0 c1 r0 r1 z0
   obtain ⟨O1, O2, O3, B3⟩ := P
   obtain ⟨a0, a1, c0, c1, r0, r1, z0⟩ := fc3 O1 O2 O3
   go_wp2_with fail
   have hw := (B3.out.setCell (p := ⟨q3, 0, none⟩) hq.out (.int .u64 (0))).setCell (p := ⟨q3, 1, none⟩) hq.out (.int .u64 (18446744073709551615))
   have HOX := Lib.hid ((O3.out.set_ 0 (.int .u64 (0))).set_ 1 (.int .u64 (18446744073709551615)))
   generalize (w5.setCell ⟨q3, 0, none⟩ (.int .u64 (0))).setCell ⟨q3, 1, none⟩ (.int .u64 (18446744073709551615)) = wf at hw HOX ⊢
   have t0 := HOX.out.c0
   have t1 := HOX.out.c1
   exact bodyPost_ret (v := .agg #[.int .u64 (0), .int .u64 (18446744073709551615)]) (by simp [results, Tryz.results131, go_sem, t0, t1]) rfl ⟨by rw [HR.out] <;> first | done | rfl, hw⟩
 have h1 : bl' = bh := Decidable.not_not.1 h1
 have HS := Lib.hid (fun w => isone_any w (uv bl') (uv bh))
 rw [show (uv bl' == uv bh) = true by rw [uv_beq]; exact decide_eq_true h1] at HS
 unfold spVal at HS
 have HL := Lib.hid (fun w => len64_any ah w)
 by_cases h2 : ah = 0#64
 · have HR := Lib.hid (show V = (al <<< bl'.toNat, ah <<< bl'.toNat) by rw [← HV.out]; exact (if_neg (not_not_intro h1)).trans (if_neg (fun h => h.1 h2)))
   rw [show bl ah = 0 by rw [h2]; exact bl_zero] at HL
   clear h1 h2
   go_enter Tryz.func131, Tryz.ntmps131
   go_upto_region 1 with fail
   obtain ⟨w3, q1, q2, q3, hw3, hq1, hq2, hq3, O1, O2, O3, B3, hq, -, -, -, -⟩ := thr w (uv al) (uv ah) (uv bl') (uv bh)
   rw [hw3, hq3, hq2, hq1]
   clear hw3 hq1 hq2 hq3
   obtain ⟨a0, a1, c0, c1, r0, r1, z0⟩ := fc3 O1 O2 O3
   refine wp_region_held_drew (S := (fun w' => w'.cell? ⟨q1, 1, none⟩ = some (.int .u64 (uv ah)) ∧ w'.cell? ⟨q2, 0, none⟩ = some (.int .u64 (uv bl')) ∧ w'.cell? ⟨q2, 1, none⟩ = some (.int .u64 (uv bh)))) (by kernel_rfl) ⟨a1, c0, c1⟩ (fun hHeld => ?_)
   refine wpAnyH_take (i := 0) (v := ?_) rfl (by kernel_rfl) (by kernel_rfl) (by kernel_rfl) (fun _ _ _ h => h) (Or.inl ⟨by kernel_rfl, ?_⟩) (by assumption) ?_
   rotate_left
   · (intro w' hSw; (try dsimp only at hSw); go_simp; try with_reducible rfl)
   try simp only [Act.put, gpa, gpb, gpc]
   refine wpAnyH_ready (rs := [1]) (by kernel_rfl) (by simp) ?_
   refine AllReadyH.cons rfl (fun K' hK => ?_) AllReadyH.nil
   go_simp
   refine (HS.out _).mono ?_
   rintro e w4 ⟨rfl, bb⟩
   have bx : Below w3.heap.size w3 w4 := (below_drewN (Below.refl w3.heap.size w3) 1).trans bb
   have P := nx3 bx O1 O2 O3 B3
   clear bx bb O1 O2 O3 B3 a0 a1 c0 c1 r0 r1 z0
   obtain ⟨O1, O2, O3, B3⟩ := P
   obtain ⟨a0, a1, c0, c1, r0, r1, z0⟩ := fc3 O1 O2 O3
   go_wp2_with fail
   refine hK.out _ _ ⟨a1, c0, c1⟩ (fun hHeld => ?_)
   clear hK K'
   try simp only [Act.put, gpa, gpb, gpc]
   refine wpAnyH_take (i := 2) (v := ?_) rfl (by kernel_rfl) (by kernel_rfl) (by kernel_rfl) (fun _ _ _ h => h) (Or.inl ⟨by kernel_rfl, ?_⟩) (by assumption) ?_
   rotate_left
   · (intro w' hSw; (try dsimp only at hSw); go_simp; try with_reducible rfl)
   try simp only [Act.put, gpa, gpb, gpc]
   refine wpAnyH_take (i := 3) (v := ?_) rfl (by kernel_rfl) (by kernel_rfl) (by kernel_rfl) (fun _ _ _ h => h) (Or.inl ⟨by kernel_rfl, ?_⟩) (by assumption) ?_
   rotate_left
   · (intro w' hSw; (try dsimp only at hSw); go_simp; try with_reducible rfl)
   try simp only [Act.put, gpa, gpb, gpc]
   refine wpAnyH_take (i := 4) (v := ?_) rfl (by kernel_rfl) (by kernel_rfl) (by kernel_rfl) (fun _ _ _ h => h) (Or.inl ⟨by kernel_rfl, ?_⟩) (by assumption) ?_
   rotate_left
   · (intro w' hSw; (try dsimp only at hSw); go_simp; try with_reducible rfl)
   try simp only [Act.put, gpa, gpb, gpc]
   refine wpAnyH_take (i := 5) (v := ?_) rfl (by kernel_rfl) (by kernel_rfl) (by kernel_rfl) (fun _ _ _ h => h) (Or.inl ⟨by kernel_rfl, ?_⟩) (by assumption) ?_
   rotate_left
   · (intro w' hSw; (try dsimp only at hSw); go_simp; try with_reducible rfl)
   try simp only [Act.put, gpa, gpb, gpc]
   refine wpAnyH_ready (rs := [6]) (by kernel_rfl) (by simp) ?_
   refine AllReadyH.cons rfl (fun K' hK => ?_) AllReadyH.nil
   go_simp
   refine (HL.out _).mono ?_
   rintro e wx ⟨rfl, rfl⟩
   go_wp2_with fail
   refine hK.out _ _ ⟨a1, c0, c1⟩ (fun hHeld => ?_)
   clear hK K'
   try simp only [Act.put, gpa, gpb, gpc]
   refine wpAnyH_take (i := 7) (v := ?_) rfl (by kernel_rfl) (by kernel_rfl) (by kernel_rfl) (fun _ _ _ h => h) (Or.inl ⟨by kernel_rfl, ?_⟩) (by assumption) ?_
   rotate_left
   · (intro w' hSw; (try dsimp only at hSw); go_simp; try with_reducible rfl)
   try simp only [Act.put, gpa, gpb, gpc]
   refine wpAnyH_take (i := 8) (v := ?_) rfl (by kernel_rfl) (by kernel_rfl) (by kernel_rfl) (fun _ _ _ h => h) (Or.inl ⟨by kernel_rfl, ?_⟩) (by assumption) ?_
   rotate_left
   · (intro w' hSw; (try dsimp only at hSw); go_simp; try with_reducible rfl)
   try simp only [Act.put, gpa, gpb, gpc]
   refine wpAnyH_take (i := 9) (v := undef) rfl (by kernel_rfl) (by kernel_rfl) (by kernel_rfl) (fun _ _ _ h => h) (Or.inr ⟨by kernel_rfl, rfl⟩) (by assumption) ?_
   try simp only [Act.put, gpa, gpb, gpc]
   refine wpAnyH_take (i := 10) (v := undef) rfl (by kernel_rfl) (by kernel_rfl) (by kernel_rfl) (fun _ _ _ h => h) (Or.inr ⟨by kernel_rfl, rfl⟩) (by assumption) ?_
   try simp only [Act.put, gpa, gpb, gpc]
   refine wpAnyH_take (i := 11) (v := undef) rfl (by kernel_rfl) (by kernel_rfl) (by kernel_rfl) (fun _ _ _ h => h) (Or.inr ⟨by kernel_rfl, rfl⟩) (by assumption) ?_
   try simp only [Act.put, gpa, gpb, gpc]
   refine wpAnyH_take (i := 12) (v := undef) rfl (by kernel_rfl) (by kernel_rfl) (by kernel_rfl) (fun _ _ _ h => h) (Or.inr ⟨by kernel_rfl, rfl⟩) (by assumption) ?_
   try simp only [Act.put, gpa, gpb, gpc]
   refine wpAnyH_take (i := 13) (v := undef) rfl (by kernel_rfl) (by kernel_rfl) (by kernel_rfl) (fun _ _ _ h => h) (Or.inr ⟨by kernel_rfl, rfl⟩) (by assumption) ?_
   try simp only [Act.put, gpa, gpb, gpc]
   refine wpAnyH_take (i := 14) (v := undef) rfl (by kernel_rfl) (by kernel_rfl) (by kernel_rfl) (fun _ _ _ h => h) (Or.inr ⟨by kernel_rfl, rfl⟩) (by assumption) ?_
   try simp only [Act.put, gpa, gpb, gpc]
   refine wpAnyH_take (i := 15) (v := undef) rfl (by kernel_rfl) (by kernel_rfl) (by kernel_rfl) (fun _ _ _ h => h) (Or.inr ⟨by kernel_rfl, rfl⟩) (by assumption) ?_
   try simp only [Act.put, gpa, gpb, gpc]
   refine wpAnyH_take (i := 16) (v := undef) rfl (by kernel_rfl) (by kernel_rfl) (by kernel_rfl) (fun _ _ _ h => h) (Or.inr ⟨by kernel_rfl, rfl⟩) (by assumption) ?_
   try simp only [Act.put, gpa, gpb, gpc]
   refine wpAnyH_take (i := 17) (v := undef) rfl (by kernel_rfl) (by kernel_rfl) (by kernel_rfl) (fun _ _ _ h => h) (Or.inr ⟨by kernel_rfl, rfl⟩) (by assumption) ?_
   try simp only [Act.put, gpa, gpb, gpc]
   refine wpAnyH_take (i := 18) (v := undef) rfl (by kernel_rfl) (by kernel_rfl) (by kernel_rfl) (fun _ _ _ h => h) (Or.inr ⟨by kernel_rfl, rfl⟩) (by assumption) ?_
   try simp only [Act.put, gpa, gpb, gpc]
   refine wpAnyH_take (i := 19) (v := undef) rfl (by kernel_rfl) (by kernel_rfl) (by kernel_rfl) (fun _ _ _ h => h) (Or.inr ⟨by kernel_rfl, rfl⟩) (by assumption) ?_
   try simp only [Act.put, gpa, gpb, gpc]
   refine wpAnyH_take (i := 20) (v := undef) rfl (by kernel_rfl) (by kernel_rfl) (by kernel_rfl) (fun _ _ _ h => h) (Or.inr ⟨by kernel_rfl, rfl⟩) (by assumption) ?_
   try simp only [Act.put, gpa, gpb, gpc]
   refine wpAnyH_take (i := 21) (v := undef) rfl (by kernel_rfl) (by kernel_rfl) (by kernel_rfl) (fun _ _ _ h => h) (Or.inr ⟨by kernel_rfl, rfl⟩) (by assumption) ?_
   try simp only [Act.put, gpa, gpb, gpc]
   refine wpAnyH_take (i := 22) (v := .bool false) rfl (by kernel_rfl) (by kernel_rfl) (by kernel_rfl) (fun _ _ _ h => h) (Or.inl ⟨by kernel_rfl, fun w' _ => by kernel_rfl⟩) (by assumption) ?_
   try simp only [Act.put, gpa, gpb, gpc]
   refine wpAnyH_take (i := 23) (v := .bool false) rfl (by kernel_rfl) (by kernel_rfl) (by kernel_rfl) (fun _ _ _ h => h) (Or.inl ⟨by kernel_rfl, fun w' _ => by kernel_rfl⟩) (by assumption) ?_
   try simp only [Act.put, gpa, gpb, gpc]
   refine wpAnyH_done (by kernel_rfl) ?_ _
   simp only [List.setIfInBounds_toArray, List.set_cons_succ, List.set_cons_zero]
   go_wp2_with fail
   have hw := (B3.out.setCell (p := ⟨q3, 0, none⟩) hq.out (.int .u64 (uv (al <<< bl'.toNat)))).setCell (p := ⟨q3, 1, none⟩) hq.out (.int .u64 (uv (ah <<< bl'.toNat)))
   have HOX := Lib.hid ((O3.out.set_ 0 (.int .u64 (uv (al <<< bl'.toNat)))).set_ 1 (.int .u64 (uv (ah <<< bl'.toNat))))
   generalize (w4.setCell ⟨q3, 0, none⟩ (.int .u64 (uv (al <<< bl'.toNat)))).setCell ⟨q3, 1, none⟩ (.int .u64 (uv (ah <<< bl'.toNat))) = wf at hw HOX ⊢
   have t0 := HOX.out.c0
   have t1 := HOX.out.c1
   exact bodyPost_ret (v := .agg #[.int .u64 (uv (al <<< bl'.toNat)), .int .u64 (uv (ah <<< bl'.toNat))]) (by simp [results, Tryz.results131, go_sem, t0, t1]) rfl ⟨by rw [HR.out] <;> first | done | rfl, hw⟩
 have h2 : ah ≠ 0#64 := h2
 have hn0 := bl_ne h2
 have hn1 := bl_le64 ah
 by_cases h3 : 64 < bl'.toNat
 · have HR := Lib.hid (show V = (0#64, mostB) by rw [← HV.out]; exact (if_neg (not_not_intro h1)).trans (if_pos ⟨h2, by omega⟩))
   have g5 : (64 : Int) < uv bl' := by unfold uv; omega
   have g6 : decide ((64 : Int) < uv bl') = true := decide_eq_true g5
   have gN : (0 : Int) < (bl ah : Int) := by omega
   have gM : (bl ah : Int) ≤ 64 := by omega
   generalize (bl ah : Int) = N at gN gM HL
   have g7 : decide (0 < N) = true := decide_eq_true gN
   clear h1 h2 h3 hn0 hn1
   go_enter Tryz.func131, Tryz.ntmps131
   go_upto_region 1 with fail
   obtain ⟨w3, q1, q2, q3, hw3, hq1, hq2, hq3, O1, O2, O3, B3, hq, -, -, -, -⟩ := thr w (uv al) (uv ah) (uv bl') (uv bh)
   rw [hw3, hq3, hq2, hq1]
   clear hw3 hq1 hq2 hq3
   obtain ⟨a0, a1, c0, c1, r0, r1, z0⟩ := fc3 O1 O2 O3
   refine wp_region_held_drew (S := (fun w' => w'.cell? ⟨q1, 1, none⟩ = some (.int .u64 (uv ah)) ∧ w'.cell? ⟨q2, 0, none⟩ = some (.int .u64 (uv bl')) ∧ w'.cell? ⟨q2, 1, none⟩ = some (.int .u64 (uv bh)))) (by kernel_rfl) ⟨a1, c0, c1⟩ (fun hHeld => ?_)
   refine wpAnyH_take (i := 0) (v := ?_) rfl (by kernel_rfl) (by kernel_rfl) (by kernel_rfl) (fun _ _ _ h => h) (Or.inl ⟨by kernel_rfl, ?_⟩) (by assumption) ?_
   rotate_left
   · (intro w' hSw; (try dsimp only at hSw); go_simp; try with_reducible rfl)
   try simp only [Act.put, gpa, gpb, gpc]
   refine wpAnyH_ready (rs := [1]) (by kernel_rfl) (by simp) ?_
   refine AllReadyH.cons rfl (fun K' hK => ?_) AllReadyH.nil
   go_simp
   refine (HS.out _).mono ?_
   rintro e w4 ⟨rfl, bb⟩
   have bx : Below w3.heap.size w3 w4 := (below_drewN (Below.refl w3.heap.size w3) 1).trans bb
   have P := nx3 bx O1 O2 O3 B3
   clear bx bb O1 O2 O3 B3 a0 a1 c0 c1 r0 r1 z0
   obtain ⟨O1, O2, O3, B3⟩ := P
   obtain ⟨a0, a1, c0, c1, r0, r1, z0⟩ := fc3 O1 O2 O3
   go_wp2_with fail
   refine hK.out _ _ ⟨a1, c0, c1⟩ (fun hHeld => ?_)
   clear hK K'
   try simp only [Act.put, gpa, gpb, gpc]
   refine wpAnyH_take (i := 2) (v := ?_) rfl (by kernel_rfl) (by kernel_rfl) (by kernel_rfl) (fun _ _ _ h => h) (Or.inl ⟨by kernel_rfl, ?_⟩) (by assumption) ?_
   rotate_left
   · (intro w' hSw; (try dsimp only at hSw); go_simp; try with_reducible rfl)
   try simp only [Act.put, gpa, gpb, gpc]
   refine wpAnyH_take (i := 3) (v := ?_) rfl (by kernel_rfl) (by kernel_rfl) (by kernel_rfl) (fun _ _ _ h => h) (Or.inl ⟨by kernel_rfl, ?_⟩) (by assumption) ?_
   rotate_left
   · (intro w' hSw; (try dsimp only at hSw); go_simp; try with_reducible rfl)
   try simp only [Act.put, gpa, gpb, gpc]
   refine wpAnyH_take (i := 4) (v := ?_) rfl (by kernel_rfl) (by kernel_rfl) (by kernel_rfl) (fun _ _ _ h => h) (Or.inl ⟨by kernel_rfl, ?_⟩) (by assumption) ?_
   rotate_left
   · (intro w' hSw; (try dsimp only at hSw); go_simp; try with_reducible rfl)
   try simp only [Act.put, gpa, gpb, gpc]
   refine wpAnyH_take (i := 5) (v := ?_) rfl (by kernel_rfl) (by kernel_rfl) (by kernel_rfl) (fun _ _ _ h => h) (Or.inl ⟨by kernel_rfl, ?_⟩) (by assumption) ?_
   rotate_left
   · (intro w' hSw; (try dsimp only at hSw); go_simp; try with_reducible rfl)
   try simp only [Act.put, gpa, gpb, gpc]
   refine wpAnyH_ready (rs := [6]) (by kernel_rfl) (by simp) ?_
   refine AllReadyH.cons rfl (fun K' hK => ?_) AllReadyH.nil
   go_simp
   refine (HL.out _).mono ?_
   rintro e wx ⟨rfl, rfl⟩
   go_wp2_with fail
   refine hK.out _ _ ⟨a1, c0, c1⟩ (fun hHeld => ?_)
   clear hK K'
   try simp only [Act.put, gpa, gpb, gpc]
   refine wpAnyH_take (i := 7) (v := ?_) rfl (by kernel_rfl) (by kernel_rfl) (by kernel_rfl) (fun _ _ _ h => h) (Or.inl ⟨by kernel_rfl, ?_⟩) (by assumption) ?_
   rotate_left
   · (intro w' hSw; (try dsimp only at hSw); go_simp; try with_reducible rfl)
   try simp only [Act.put, gpa, gpb, gpc]
   refine wpAnyH_take (i := 8) (v := ?_) rfl (by kernel_rfl) (by kernel_rfl) (by kernel_rfl) (fun _ _ _ h => h) (Or.inl ⟨by kernel_rfl, ?_⟩) (by assumption) ?_
   rotate_left
   · (intro w' hSw; (try dsimp only at hSw); go_simp; try with_reducible rfl)
   try simp only [Act.put, gpa, gpb, gpc]
   refine wpAnyH_take (i := 9) (v := ?_) rfl (by kernel_rfl) (by kernel_rfl) (by kernel_rfl) (fun _ _ _ h => h) (Or.inl ⟨by kernel_rfl, ?_⟩) (by assumption) ?_
   rotate_left
   · (intro w' hSw; (try dsimp only at hSw); go_simp; try with_reducible rfl)
   try simp only [Act.put, gpa, gpb, gpc]
   refine wpAnyH_take (i := 10) (v := ?_) rfl (by kernel_rfl) (by kernel_rfl) (by kernel_rfl) (fun _ _ _ h => h) (Or.inl ⟨by kernel_rfl, ?_⟩) (by assumption) ?_
   rotate_left
   · (intro w' hSw; (try dsimp only at hSw); go_simp; try with_reducible rfl)
   try simp only [Act.put, gpa, gpb, gpc]
   refine wpAnyH_take (i := 11) (v := ?_) rfl (by kernel_rfl) (by kernel_rfl) (by kernel_rfl) (fun _ _ _ h => h) (Or.inl ⟨by kernel_rfl, ?_⟩) (by assumption) ?_
   rotate_left
   · (intro w' hSw; (try dsimp only at hSw); go_simp; try with_reducible rfl)
   try simp only [Act.put, gpa, gpb, gpc]
   refine wpAnyH_take (i := 12) (v := ?_) rfl (by kernel_rfl) (by kernel_rfl) (by kernel_rfl) (fun _ _ _ h => h) (Or.inl ⟨by kernel_rfl, ?_⟩) (by assumption) ?_
   rotate_left
   · (intro w' hSw; (try dsimp only at hSw); go_simp; try with_reducible rfl)
   try simp only [Act.put, gpa, gpb, gpc]
   refine wpAnyH_take (i := 13) (v := undef) rfl (by kernel_rfl) (by kernel_rfl) (by kernel_rfl) (fun _ _ _ h => h) (Or.inr ⟨by kernel_rfl, rfl⟩) (by assumption) ?_
   try simp only [Act.put, gpa, gpb, gpc]
   refine wpAnyH_take (i := 14) (v := undef) rfl (by kernel_rfl) (by kernel_rfl) (by kernel_rfl) (fun _ _ _ h => h) (Or.inr ⟨by kernel_rfl, rfl⟩) (by assumption) ?_
   try simp only [Act.put, gpa, gpb, gpc]
   refine wpAnyH_take (i := 15) (v := undef) rfl (by kernel_rfl) (by kernel_rfl) (by kernel_rfl) (fun _ _ _ h => h) (Or.inr ⟨by kernel_rfl, rfl⟩) (by assumption) ?_
   try simp only [Act.put, gpa, gpb, gpc]
   refine wpAnyH_take (i := 16) (v := undef) rfl (by kernel_rfl) (by kernel_rfl) (by kernel_rfl) (fun _ _ _ h => h) (Or.inr ⟨by kernel_rfl, rfl⟩) (by assumption) ?_
   try simp only [Act.put, gpa, gpb, gpc]
   refine wpAnyH_take (i := 17) (v := undef) rfl (by kernel_rfl) (by kernel_rfl) (by kernel_rfl) (fun _ _ _ h => h) (Or.inr ⟨by kernel_rfl, rfl⟩) (by assumption) ?_
   try simp only [Act.put, gpa, gpb, gpc]
   refine wpAnyH_take (i := 18) (v := undef) rfl (by kernel_rfl) (by kernel_rfl) (by kernel_rfl) (fun _ _ _ h => h) (Or.inr ⟨by kernel_rfl, rfl⟩) (by assumption) ?_
   try simp only [Act.put, gpa, gpb, gpc]
   refine wpAnyH_take (i := 19) (v := undef) rfl (by kernel_rfl) (by kernel_rfl) (by kernel_rfl) (fun _ _ _ h => h) (Or.inr ⟨by kernel_rfl, rfl⟩) (by assumption) ?_
   try simp only [Act.put, gpa, gpb, gpc]
   refine wpAnyH_take (i := 20) (v := undef) rfl (by kernel_rfl) (by kernel_rfl) (by kernel_rfl) (fun _ _ _ h => h) (Or.inr ⟨by kernel_rfl, rfl⟩) (by assumption) ?_
   try simp only [Act.put, gpa, gpb, gpc]
   refine wpAnyH_take (i := 21) (v := .bool true) rfl (by kernel_rfl) (by kernel_rfl) (by kernel_rfl) (fun _ _ _ h => h) (Or.inl ⟨by kernel_rfl, fun w' _ => by kernel_rfl⟩) (by assumption) ?_
   try simp only [Act.put, gpa, gpb, gpc]
   refine wpAnyH_take (i := 22) (v := .bool true) rfl (by kernel_rfl) (by kernel_rfl) (by kernel_rfl) (fun _ _ _ h => h) (Or.inl ⟨by kernel_rfl, fun w' _ => by kernel_rfl⟩) (by assumption) ?_
   try simp only [Act.put, gpa, gpb, gpc]
   refine wpAnyH_take (i := 23) (v := .bool true) rfl (by kernel_rfl) (by kernel_rfl) (by kernel_rfl) (fun _ _ _ h => h) (Or.inl ⟨by kernel_rfl, fun w' _ => by kernel_rfl⟩) (by assumption) ?_
   try simp only [Act.put, gpa, gpb, gpc]
   refine wpAnyH_done (by kernel_rfl) ?_ _
   simp only [List.setIfInBounds_toArray, List.set_cons_succ, List.set_cons_zero]
   go_wp2_with fail
   refine (HF.out w4).mono ?_
   rintro e w5 ⟨rfl, bx⟩
   have P := nx3 bx O1 O2 O3 B3
   clear bx O1 O2 O3 B3 a0 a1 c0 c1 r0 r1 z0
   obtain ⟨O1, O2, O3, B3⟩ := P
   obtain ⟨a0, a1, c0, c1, r0, r1, z0⟩ := fc3 O1 O2 O3
   go_wp2_with fail
   have hw := (B3.out.setCell (p := ⟨q3, 0, none⟩) hq.out (.int .u64 (0))).setCell (p := ⟨q3, 1, none⟩) hq.out (.int .u64 (18446744073709551615))
   have HOX := Lib.hid ((O3.out.set_ 0 (.int .u64 (0))).set_ 1 (.int .u64 (18446744073709551615)))
   generalize (w5.setCell ⟨q3, 0, none⟩ (.int .u64 (0))).setCell ⟨q3, 1, none⟩ (.int .u64 (18446744073709551615)) = wf at hw HOX ⊢
   have t0 := HOX.out.c0
   have t1 := HOX.out.c1
   exact bodyPost_ret (v := .agg #[.int .u64 (0), .int .u64 (18446744073709551615)]) (by simp [results, Tryz.results131, go_sem, t0, t1]) rfl ⟨by rw [HR.out] <;> first | done | rfl, hw⟩
 by_cases h4 : 64 < bl ah + bl'.toNat
 · have HR := Lib.hid (show V = (0#64, mostB) by rw [← HV.out]; exact (if_neg (not_not_intro h1)).trans (if_pos ⟨h2, h4⟩))
   have g5 : ¬ (64 : Int) < uv bl' := by unfold uv; omega
   have g6 : decide ((64 : Int) < uv bl') = false := decide_eq_false g5
   have g8 : decide ((64 : Int) < (bl ah : Int) + uv bl') = true := decide_eq_true (by unfold uv; omega)
   have g0 := uv_nonneg bl'
   have gN : (0 : Int) < (bl ah : Int) := by omega
   have gM : (bl ah : Int) ≤ 64 := by omega
   generalize (bl ah : Int) = N at gN gM HL g8
   have g7 : decide (0 < N) = true := decide_eq_true gN
   have hw1 : IntKind.u64.wrap N = N := by rw [IntKind.wrap_u64]; omega
   have hw2 : IntKind.u64.wrap (N + uv bl') = N + uv bl' := by rw [IntKind.wrap_u64]; omega
   clear h1 h2 h3 h4 hn0 hn1
   go_enter Tryz.func131, Tryz.ntmps131
   go_upto_region 1 with fail
   obtain ⟨w3, q1, q2, q3, hw3, hq1, hq2, hq3, O1, O2, O3, B3, hq, -, -, -, -⟩ := thr w (uv al) (uv ah) (uv bl') (uv bh)
   rw [hw3, hq3, hq2, hq1]
   clear hw3 hq1 hq2 hq3
   obtain ⟨a0, a1, c0, c1, r0, r1, z0⟩ := fc3 O1 O2 O3
   refine wp_region_held_drew (S := (fun w' => w'.cell? ⟨q1, 1, none⟩ = some (.int .u64 (uv ah)) ∧ w'.cell? ⟨q2, 0, none⟩ = some (.int .u64 (uv bl')) ∧ w'.cell? ⟨q2, 1, none⟩ = some (.int .u64 (uv bh)))) (by kernel_rfl) ⟨a1, c0, c1⟩ (fun hHeld => ?_)
   refine wpAnyH_take (i := 0) (v := ?_) rfl (by kernel_rfl) (by kernel_rfl) (by kernel_rfl) (fun _ _ _ h => h) (Or.inl ⟨by kernel_rfl, ?_⟩) (by assumption) ?_
   rotate_left
   · (intro w' hSw; (try dsimp only at hSw); go_simp; try with_reducible rfl)
   try simp only [Act.put, gpa, gpb, gpc]
   refine wpAnyH_ready (rs := [1]) (by kernel_rfl) (by simp) ?_
   refine AllReadyH.cons rfl (fun K' hK => ?_) AllReadyH.nil
   go_simp
   refine (HS.out _).mono ?_
   rintro e w4 ⟨rfl, bb⟩
   have bx : Below w3.heap.size w3 w4 := (below_drewN (Below.refl w3.heap.size w3) 1).trans bb
   have P := nx3 bx O1 O2 O3 B3
   clear bx bb O1 O2 O3 B3 a0 a1 c0 c1 r0 r1 z0
   obtain ⟨O1, O2, O3, B3⟩ := P
   obtain ⟨a0, a1, c0, c1, r0, r1, z0⟩ := fc3 O1 O2 O3
   go_wp2_with fail
   refine hK.out _ _ ⟨a1, c0, c1⟩ (fun hHeld => ?_)
   clear hK K'
   try simp only [Act.put, gpa, gpb, gpc]
   refine wpAnyH_take (i := 2) (v := ?_) rfl (by kernel_rfl) (by kernel_rfl) (by kernel_rfl) (fun _ _ _ h => h) (Or.inl ⟨by kernel_rfl, ?_⟩) (by assumption) ?_
   rotate_left
   · (intro w' hSw; (try dsimp only at hSw); go_simp; try with_reducible rfl)
   try simp only [Act.put, gpa, gpb, gpc]
   refine wpAnyH_take (i := 3) (v := ?_) rfl (by kernel_rfl) (by kernel_rfl) (by kernel_rfl) (fun _ _ _ h => h) (Or.inl ⟨by kernel_rfl, ?_⟩) (by assumption) ?_
   rotate_left
   · (intro w' hSw; (try dsimp only at hSw); go_simp; try with_reducible rfl)
   try simp only [Act.put, gpa, gpb, gpc]
   refine wpAnyH_take (i := 4) (v := ?_) rfl (by kernel_rfl) (by kernel_rfl) (by kernel_rfl) (fun _ _ _ h => h) (Or.inl ⟨by kernel_rfl, ?_⟩) (by assumption) ?_
   rotate_left
   · (intro w' hSw; (try dsimp only at hSw); go_simp; try with_reducible rfl)
   try simp only [Act.put, gpa, gpb, gpc]
   refine wpAnyH_take (i := 5) (v := ?_) rfl (by kernel_rfl) (by kernel_rfl) (by kernel_rfl) (fun _ _ _ h => h) (Or.inl ⟨by kernel_rfl, ?_⟩) (by assumption) ?_
   rotate_left
   · (intro w' hSw; (try dsimp only at hSw); go_simp; try with_reducible rfl)
   try simp only [Act.put, gpa, gpb, gpc]
   refine wpAnyH_ready (rs := [6]) (by kernel_rfl) (by simp) ?_
   refine AllReadyH.cons rfl (fun K' hK => ?_) AllReadyH.nil
   go_simp
   refine (HL.out _).mono ?_
   rintro e wx ⟨rfl, rfl⟩
   go_wp2_with fail
   refine hK.out _ _ ⟨a1, c0, c1⟩ (fun hHeld => ?_)
   clear hK K'
   try simp only [Act.put, gpa, gpb, gpc]
   refine wpAnyH_take (i := 7) (v := ?_) rfl (by kernel_rfl) (by kernel_rfl) (by kernel_rfl) (fun _ _ _ h => h) (Or.inl ⟨by kernel_rfl, ?_⟩) (by assumption) ?_
   rotate_left
   · (intro w' hSw; (try dsimp only at hSw); go_simp; try with_reducible rfl)
   try simp only [Act.put, gpa, gpb, gpc]
   refine wpAnyH_take (i := 8) (v := ?_) rfl (by kernel_rfl) (by kernel_rfl) (by kernel_rfl) (fun _ _ _ h => h) (Or.inl ⟨by kernel_rfl, ?_⟩) (by assumption) ?_
   rotate_left
   · (intro w' hSw; (try dsimp only at hSw); go_simp; try with_reducible rfl)
   try simp only [Act.put, gpa, gpb, gpc]
   refine wpAnyH_take (i := 9) (v := ?_) rfl (by kernel_rfl) (by kernel_rfl) (by kernel_rfl) (fun _ _ _ h => h) (Or.inl ⟨by kernel_rfl, ?_⟩) (by assumption) ?_
   rotate_left
   · (intro w' hSw; (try dsimp only at hSw); go_simp; try with_reducible rfl)
   try simp only [Act.put, gpa, gpb, gpc]
   refine wpAnyH_take (i := 10) (v := ?_) rfl (by kernel_rfl) (by kernel_rfl) (by kernel_rfl) (fun _ _ _ h => h) (Or.inl ⟨by kernel_rfl, ?_⟩) (by assumption) ?_
   rotate_left
   · (intro w' hSw; (try dsimp only at hSw); go_simp; try with_reducible rfl)
   try simp only [Act.put, gpa, gpb, gpc]
   refine wpAnyH_take (i := 11) (v := ?_) rfl (by kernel_rfl) (by kernel_rfl) (by kernel_rfl) (fun _ _ _ h => h) (Or.inl ⟨by kernel_rfl, ?_⟩) (by assumption) ?_
   rotate_left
   · (intro w' hSw; (try dsimp only at hSw); go_simp; try with_reducible rfl)
   try simp only [Act.put, gpa, gpb, gpc]
   refine wpAnyH_take (i := 12) (v := ?_) rfl (by kernel_rfl) (by kernel_rfl) (by kernel_rfl) (fun _ _ _ h => h) (Or.inl ⟨by kernel_rfl, ?_⟩) (by assumption) ?_
   rotate_left
   · (intro w' hSw; (try dsimp only at hSw); go_simp; try with_reducible rfl)
   try simp only [Act.put, gpa, gpb, gpc]
   refine wpAnyH_take (i := 13) (v := ?_) rfl (by kernel_rfl) (by kernel_rfl) (by kernel_rfl) (fun _ _ _ h => h) (Or.inl ⟨by kernel_rfl, ?_⟩) (by assumption) ?_
   rotate_left
   · (intro w' hSw; (try dsimp only at hSw); go_simp; try with_reducible rfl)
   try simp only [Act.put, gpa, gpb, gpc]
   refine wpAnyH_take (i := 14) (v := ?_) rfl (by kernel_rfl) (by kernel_rfl) (by kernel_rfl) (fun _ _ _ h => h) (Or.inl ⟨by kernel_rfl, ?_⟩) (by assumption) ?_
   rotate_left
   · (intro w' hSw; (try dsimp only at hSw); go_simp; try with_reducible rfl)
   try simp only [Act.put, gpa, gpb, gpc]
   refine wpAnyH_take (i := 17) (v := ?_) rfl (by kernel_rfl) (by kernel_rfl) (by kernel_rfl) (fun _ _ _ h => h) (Or.inl ⟨by kernel_rfl, ?_⟩) (by assumption) ?_
   rotate_left
   · (intro w' hSw; (try dsimp only at hSw); go_simp; try with_reducible rfl)
   try simp only [Act.put, gpa, gpb, gpc]
   refine wpAnyH_take (i := 18) (v := ?_) rfl (by kernel_rfl) (by kernel_rfl) (by kernel_rfl) (fun _ _ _ h => h) (Or.inl ⟨by kernel_rfl, ?_⟩) (by assumption) ?_
   rotate_left
   · (intro w' hSw; (try dsimp only at hSw); go_simp; try with_reducible rfl)
   try simp only [Act.put, gpa, gpb, gpc]
   refine wpAnyH_ready (rs := [15]) (by kernel_rfl) (by simp) ?_
   refine AllReadyH.cons rfl (fun K' hK => ?_) AllReadyH.nil
   go_simp
   refine (HL.out _).mono ?_
   rintro e wx ⟨rfl, rfl⟩
   go_wp2_with fail
   refine hK.out _ _ ⟨a1, c0, c1⟩ (fun hHeld => ?_)
   clear hK K'
   try simp only [Act.put, gpa, gpb, gpc]
   refine wpAnyH_take (i := 16) (v := ?_) rfl (by kernel_rfl) (by kernel_rfl) (by kernel_rfl) (fun _ _ _ h => h) (Or.inl ⟨by kernel_rfl, ?_⟩) (by assumption) ?_
   rotate_left
   · (intro w' hSw; (try dsimp only at hSw); go_simp; try with_reducible rfl)
   try simp only [Act.put, gpa, gpb, gpc]
   refine wpAnyH_take (i := 19) (v := ?_) rfl (by kernel_rfl) (by kernel_rfl) (by kernel_rfl) (fun _ _ _ h => h) (Or.inl ⟨by kernel_rfl, ?_⟩) (by assumption) ?_
   rotate_left
   · (intro w' hSw; (try dsimp only at hSw); go_simp; try with_reducible rfl)
   try simp only [Act.put, gpa, gpb, gpc]
   refine wpAnyH_take (i := 20) (v := ?_) rfl (by kernel_rfl) (by kernel_rfl) (by kernel_rfl) (fun _ _ _ h => h) (Or.inl ⟨by kernel_rfl, ?_⟩) (by assumption) ?_
   rotate_left
   · (intro w' hSw; (try dsimp only at hSw); go_simp; try with_reducible rfl)
   try simp only [Act.put, gpa, gpb, gpc]
   refine wpAnyH_take (i := 21) (v := .bool true) rfl (by kernel_rfl) (by kernel_rfl) (by kernel_rfl) (fun _ _ _ h => h) (Or.inl ⟨by kernel_rfl, fun w' _ => by kernel_rfl⟩) (by assumption) ?_
   try simp only [Act.put, gpa, gpb, gpc]
   refine wpAnyH_take (i := 22) (v := .bool true) rfl (by kernel_rfl) (by kernel_rfl) (by kernel_rfl) (fun _ _ _ h => h) (Or.inl ⟨by kernel_rfl, fun w' _ => by kernel_rfl⟩) (by assumption) ?_
   try simp only [Act.put, gpa, gpb, gpc]
   refine wpAnyH_take (i := 23) (v := .bool true) rfl (by kernel_rfl) (by kernel_rfl) (by kernel_rfl) (fun _ _ _ h => h) (Or.inl ⟨by kernel_rfl, fun w' _ => by kernel_rfl⟩) (by assumption) ?_
   try simp only [Act.put, gpa, gpb, gpc]
   refine wpAnyH_done (by kernel_rfl) ?_ _
   simp only [List.setIfInBounds_toArray, List.set_cons_succ, List.set_cons_zero]
   go_wp2_with fail
   refine (HF.out w4).mono ?_
   rintro e w5 ⟨rfl, bx⟩
   have P := nx3 bx O1 O2 O3 B3
   clear bx O1 O2 O3 B3 a0 a1 c0 c1 r0 r1 z0
   obtain ⟨O1, O2, O3, B3⟩ := P
   obtain ⟨a0, a1, c0, c1, r0, r1, z0⟩ := fc3 O1 O2 O3
   go_wp2_with fail
   have hw := (B3.out.setCell (p := ⟨q3, 0, none⟩) hq.out (.int .u64 (0))).setCell (p := ⟨q3, 1, none⟩) hq.out (.int .u64 (18446744073709551615))
   have HOX := Lib.hid ((O3.out.set_ 0 (.int .u64 (0))).set_ 1 (.int .u64 (18446744073709551615)))
   generalize (w5.setCell ⟨q3, 0, none⟩ (.int .u64 (0))).setCell ⟨q3, 1, none⟩ (.int .u64 (18446744073709551615)) = wf at hw HOX ⊢
   have t0 := HOX.out.c0
   have t1 := HOX.out.c1
   exact bodyPost_ret (v := .agg #[.int .u64 (0), .int .u64 (18446744073709551615)]) (by simp [results, Tryz.results131, go_sem, t0, t1]) rfl ⟨by rw [HR.out] <;> first | done | rfl, hw⟩
 have HR := Lib.hid (show V = (al <<< (uv bl').toNat, ah <<< (uv bl').toNat) by rw [← HV.out, uv_toNat]; exact (if_neg (not_not_intro h1)).trans (if_neg (fun h => h4 h.2)))
 have g5 : ¬ (64 : Int) < uv bl' := by unfold uv; omega
 have g6 : decide ((64 : Int) < uv bl') = false := decide_eq_false g5
 have g8 : decide ((64 : Int) < (bl ah : Int) + uv bl') = false := decide_eq_false (by unfold uv; omega)
 have g0 := uv_nonneg bl'
 have gN : (0 : Int) < (bl ah : Int) := by omega
 have gM : (bl ah : Int) ≤ 64 := by omega
 generalize (bl ah : Int) = N at gN gM HL g8
 have g7 : decide (0 < N) = true := decide_eq_true gN
 have hw1 : IntKind.u64.wrap N = N := by rw [IntKind.wrap_u64]; omega
 have hw2 : IntKind.u64.wrap (N + uv bl') = N + uv bl' := by rw [IntKind.wrap_u64]; omega
 clear h1 h2 h3 h4 hn0 hn1
 go_enter Tryz.func131, Tryz.ntmps131
 go_upto_region 1 with fail
 obtain ⟨w3, q1, q2, q3, hw3, hq1, hq2, hq3, O1, O2, O3, B3, hq, -, -, -, -⟩ := thr w (uv al) (uv ah) (uv bl') (uv bh)
 rw [hw3, hq3, hq2, hq1]
 clear hw3 hq1 hq2 hq3
 obtain ⟨a0, a1, c0, c1, r0, r1, z0⟩ := fc3 O1 O2 O3
 refine wp_region_held_drew (S := (fun w' => w'.cell? ⟨q1, 1, none⟩ = some (.int .u64 (uv ah)) ∧ w'.cell? ⟨q2, 0, none⟩ = some (.int .u64 (uv bl')) ∧ w'.cell? ⟨q2, 1, none⟩ = some (.int .u64 (uv bh)))) (by kernel_rfl) ⟨a1, c0, c1⟩ (fun hHeld => ?_)
 refine wpAnyH_take (i := 0) (v := ?_) rfl (by kernel_rfl) (by kernel_rfl) (by kernel_rfl) (fun _ _ _ h => h) (Or.inl ⟨by kernel_rfl, ?_⟩) (by assumption) ?_
 rotate_left
 · (intro w' hSw; (try dsimp only at hSw); go_simp; try with_reducible rfl)
 try simp only [Act.put, gpa, gpb, gpc]
 refine wpAnyH_ready (rs := [1]) (by kernel_rfl) (by simp) ?_
 refine AllReadyH.cons rfl (fun K' hK => ?_) AllReadyH.nil
 go_simp
 refine (HS.out _).mono ?_
 rintro e w4 ⟨rfl, bb⟩
 have bx : Below w3.heap.size w3 w4 := (below_drewN (Below.refl w3.heap.size w3) 1).trans bb
 have P := nx3 bx O1 O2 O3 B3
 clear bx bb O1 O2 O3 B3 a0 a1 c0 c1 r0 r1 z0
 obtain ⟨O1, O2, O3, B3⟩ := P
 obtain ⟨a0, a1, c0, c1, r0, r1, z0⟩ := fc3 O1 O2 O3
 go_wp2_with fail
 refine hK.out _ _ ⟨a1, c0, c1⟩ (fun hHeld => ?_)
 clear hK K'
 try simp only [Act.put, gpa, gpb, gpc]
 refine wpAnyH_take (i := 2) (v := ?_) rfl (by kernel_rfl) (by kernel_rfl) (by kernel_rfl) (fun _ _ _ h => h) (Or.inl ⟨by kernel_rfl, ?_⟩) (by assumption) ?_
 rotate_left
 · (intro w' hSw; (try dsimp only at hSw); go_simp; try with_reducible rfl)
 try simp only [Act.put, gpa, gpb, gpc]
 refine wpAnyH_take (i := 3) (v := ?_) rfl (by kernel_rfl) (by kernel_rfl) (by kernel_rfl) (fun _ _ _ h => h) (Or.inl ⟨by kernel_rfl, ?_⟩) (by assumption) ?_
 rotate_left
 · (intro w' hSw; (try dsimp only at hSw); go_simp; try with_reducible rfl)
 try simp only [Act.put, gpa, gpb, gpc]
 refine wpAnyH_take (i := 4) (v := ?_) rfl (by kernel_rfl) (by kernel_rfl) (by kernel_rfl) (fun _ _ _ h => h) (Or.inl ⟨by kernel_rfl, ?_⟩) (by assumption) ?_
 rotate_left
 · (intro w' hSw; (try dsimp only at hSw); go_simp; try with_reducible rfl)
 try simp only [Act.put, gpa, gpb, gpc]
 refine wpAnyH_take (i := 5) (v := ?_) rfl (by kernel_rfl) (by kernel_rfl) (by kernel_rfl) (fun _ _ _ h => h) (Or.inl ⟨by kernel_rfl, ?_⟩) (by assumption) ?_
 rotate_left
 · (intro w' hSw; (try dsimp only at hSw); go_simp; try with_reducible rfl)
 try simp only [Act.put, gpa, gpb, gpc]
 refine wpAnyH_ready (rs := [6]) (by kernel_rfl) (by simp) ?_
 refine AllReadyH.cons rfl (fun K' hK => ?_) AllReadyH.nil
 go_simp
 refine (HL.out _).mono ?_
 rintro e wx ⟨rfl, rfl⟩
 go_wp2_with fail
 refine hK.out _ _ ⟨a1, c0, c1⟩ (fun hHeld => ?_)
 clear hK K'
 try simp only [Act.put, gpa, gpb, gpc]
 refine wpAnyH_take (i := 7) (v := ?_) rfl (by kernel_rfl) (by kernel_rfl) (by kernel_rfl) (fun _ _ _ h => h) (Or.inl ⟨by kernel_rfl, ?_⟩) (by assumption) ?_
 rotate_left
 · (intro w' hSw; (try dsimp only at hSw); go_simp; try with_reducible rfl)
 try simp only [Act.put, gpa, gpb, gpc]
 refine wpAnyH_take (i := 8) (v := ?_) rfl (by kernel_rfl) (by kernel_rfl) (by kernel_rfl) (fun _ _ _ h => h) (Or.inl ⟨by kernel_rfl, ?_⟩) (by assumption) ?_
 rotate_left
 · (intro w' hSw; (try dsimp only at hSw); go_simp; try with_reducible rfl)
 try simp only [Act.put, gpa, gpb, gpc]
 refine wpAnyH_take (i := 9) (v := ?_) rfl (by kernel_rfl) (by kernel_rfl) (by kernel_rfl) (fun _ _ _ h => h) (Or.inl ⟨by kernel_rfl, ?_⟩) (by assumption) ?_
 rotate_left
 · (intro w' hSw; (try dsimp only at hSw); go_simp; try with_reducible rfl)
 try simp only [Act.put, gpa, gpb, gpc]
 refine wpAnyH_take (i := 10) (v := ?_) rfl (by kernel_rfl) (by kernel_rfl) (by kernel_rfl) (fun _ _ _ h => h) (Or.inl ⟨by kernel_rfl, ?_⟩) (by assumption) ?_
 rotate_left
 · (intro w' hSw; (try dsimp only at hSw); go_simp; try with_reducible rfl)
 try simp only [Act.put, gpa, gpb, gpc]
 refine wpAnyH_take (i := 11) (v := ?_) rfl (by kernel_rfl) (by kernel_rfl) (by kernel_rfl) (fun _ _ _ h => h) (Or.inl ⟨by kernel_rfl, ?_⟩) (by assumption) ?_
 rotate_left
 · (intro w' hSw; (try dsimp only at hSw); go_simp; try with_reducible rfl)
 try simp only [Act.put, gpa, gpb, gpc]
 refine wpAnyH_take (i := 12) (v := ?_) rfl (by kernel_rfl) (by kernel_rfl) (by kernel_rfl) (fun _ _ _ h => h) (Or.inl ⟨by kernel_rfl, ?_⟩) (by assumption) ?_
 rotate_left
 · (intro w' hSw; (try dsimp only at hSw); go_simp; try with_reducible rfl)
 try simp only [Act.put, gpa, gpb, gpc]
 refine wpAnyH_take (i := 13) (v := ?_) rfl (by kernel_rfl) (by kernel_rfl) (by kernel_rfl) (fun _ _ _ h => h) (Or.inl ⟨by kernel_rfl, ?_⟩) (by assumption) ?_
 rotate_left
 · (intro w' hSw; (try dsimp only at hSw); go_simp; try with_reducible rfl)
 try simp only [Act.put, gpa, gpb, gpc]
 refine wpAnyH_take (i := 14) (v := ?_) rfl (by kernel_rfl) (by kernel_rfl) (by kernel_rfl) (fun _ _ _ h => h) (Or.inl ⟨by kernel_rfl, ?_⟩) (by assumption) ?_
 rotate_left
 · (intro w' hSw; (try dsimp only at hSw); go_simp; try with_reducible rfl)
 try simp only [Act.put, gpa, gpb, gpc]
 refine wpAnyH_take (i := 17) (v := ?_) rfl (by kernel_rfl) (by kernel_rfl) (by kernel_rfl) (fun _ _ _ h => h) (Or.inl ⟨by kernel_rfl, ?_⟩) (by assumption) ?_
 rotate_left
 · (intro w' hSw; (try dsimp only at hSw); go_simp; try with_reducible rfl)
 try simp only [Act.put, gpa, gpb, gpc]
 refine wpAnyH_take (i := 18) (v := ?_) rfl (by kernel_rfl) (by kernel_rfl) (by kernel_rfl) (fun _ _ _ h => h) (Or.inl ⟨by kernel_rfl, ?_⟩) (by assumption) ?_
 rotate_left
 · (intro w' hSw; (try dsimp only at hSw); go_simp; try with_reducible rfl)
 try simp only [Act.put, gpa, gpb, gpc]
 refine wpAnyH_ready (rs := [15]) (by kernel_rfl) (by simp) ?_
 refine AllReadyH.cons rfl (fun K' hK => ?_) AllReadyH.nil
 go_simp
 refine (HL.out _).mono ?_
 rintro e wx ⟨rfl, rfl⟩
 go_wp2_with fail
 refine hK.out _ _ ⟨a1, c0, c1⟩ (fun hHeld => ?_)
 clear hK K'
 try simp only [Act.put, gpa, gpb, gpc]
 refine wpAnyH_take (i := 16) (v := ?_) rfl (by kernel_rfl) (by kernel_rfl) (by kernel_rfl) (fun _ _ _ h => h) (Or.inl ⟨by kernel_rfl, ?_⟩) (by assumption) ?_
 rotate_left
 · (intro w' hSw; (try dsimp only at hSw); go_simp; try with_reducible rfl)
 try simp only [Act.put, gpa, gpb, gpc]
 refine wpAnyH_take (i := 19) (v := ?_) rfl (by kernel_rfl) (by kernel_rfl) (by kernel_rfl) (fun _ _ _ h => h) (Or.inl ⟨by kernel_rfl, ?_⟩) (by assumption) ?_
 rotate_left
 · (intro w' hSw; (try dsimp only at hSw); go_simp; try with_reducible rfl)
 try simp only [Act.put, gpa, gpb, gpc]
 refine wpAnyH_take (i := 20) (v := ?_) rfl (by kernel_rfl) (by kernel_rfl) (by kernel_rfl) (fun _ _ _ h => h) (Or.inl ⟨by kernel_rfl, ?_⟩) (by assumption) ?_
 rotate_left
 · (intro w' hSw; (try dsimp only at hSw); go_simp; try with_reducible rfl)
 try simp only [Act.put, gpa, gpb, gpc]
 refine wpAnyH_take (i := 21) (v := .bool false) rfl (by kernel_rfl) (by kernel_rfl) (by kernel_rfl) (fun _ _ _ h => h) (Or.inl ⟨by kernel_rfl, fun w' _ => by kernel_rfl⟩) (by assumption) ?_
 try simp only [Act.put, gpa, gpb, gpc]
 refine wpAnyH_take (i := 22) (v := .bool false) rfl (by kernel_rfl) (by kernel_rfl) (by kernel_rfl) (fun _ _ _ h => h) (Or.inl ⟨by kernel_rfl, fun w' _ => by kernel_rfl⟩) (by assumption) ?_
 try simp only [Act.put, gpa, gpb, gpc]
 refine wpAnyH_take (i := 23) (v := .bool false) rfl (by kernel_rfl) (by kernel_rfl) (by kernel_rfl) (fun _ _ _ h => h) (Or.inl ⟨by kernel_rfl, fun w' _ => by kernel_rfl⟩) (by assumption) ?_
 try simp only [Act.put, gpa, gpb, gpc]
 refine wpAnyH_done (by kernel_rfl) ?_ _
 simp only [List.setIfInBounds_toArray, List.set_cons_succ, List.set_cons_zero]
 go_wp2_with fail
 have hw := (B3.out.setCell (p := ⟨q3, 0, none⟩) hq.out (.int .u64 (uv (al <<< (uv bl').toNat)))).setCell (p := ⟨q3, 1, none⟩) hq.out (.int .u64 (uv (ah <<< (uv bl').toNat)))
 have HOX := Lib.hid ((O3.out.set_ 0 (.int .u64 (uv (al <<< (uv bl').toNat)))).set_ 1 (.int .u64 (uv (ah <<< (uv bl').toNat))))
 generalize (w4.setCell ⟨q3, 0, none⟩ (.int .u64 (uv (al <<< (uv bl').toNat)))).setCell ⟨q3, 1, none⟩ (.int .u64 (uv (ah <<< (uv bl').toNat))) = wf at hw HOX ⊢
 have t0 := HOX.out.c0
 have t1 := HOX.out.c1
 exact bodyPost_ret (v := .agg #[.int .u64 (uv (al <<< (uv bl').toNat)), .int .u64 (uv (ah <<< (uv bl').toNat))]) (by simp [results, Tryz.results131, go_sem, t0, t1]) rfl ⟨by rw [HR.out] <;> first | done | rfl, hw⟩

end Go.Proofs.YtikkmkomlajnfaaGreatDoor.Sp
end
