/-
  awake of layer 5; the law ArithDoes. Conditions: none.
-/
import Derived.Test.YtonodmeacpaifaaArithFold
namespace Go.Proofs.Ytonodmeacpaifaa
open Go.RowKit

theorem ex1 : uv (AM.doV 5 7#64 4#64) = 3 := by decide +kernel
theorem ex2 : AM.hdV 18 1#64 18446744073709551615#64 = true := by decide +kernel
theorem ex3 : uv (AM.foldV 2 [10#64, 3#64, 4#64]) = 3 := by decide +kernel
theorem ex4 : AM.doOk 5 = true := rfl
theorem ex5 : AM.hdOk 18 = true := rfl
theorem ex6 : AM.foldOk 2 [10#64, 3#64, 4#64] = true := rfl

set_option maxHeartbeats 400000 in
theorem awake_any (w : World) :
    Calls Try.prog 8 #[] w fun e w' => e = .returned (.bool true) ∧ w.alloc (.cells #[.int .u64 10, .int .u64 3, .int .u64 4] 22) = w' := by
  go_enter Try.func8, Try.ntmps8
  go_wp2_with fail
  refine (do_at 5 7 4 7#64 4#64 rfl rfl w).mono ?_
  rintro e w' ⟨rfl, rfl⟩
  rw [ex1, ex4]
  go_wp2_with fail
  refine (hd_at 18 1 18446744073709551615 1#64 18446744073709551615#64 rfl rfl w).mono ?_
  rintro e w' ⟨rfl, rfl⟩
  rw [ex2, ex5]
  go_wp2_with fail
  refine (fold_any 2 [10#64, 3#64, 4#64] _ _ _ rfl (by simp) (by simp) _ (Sl.fresh w #[.int .u64 10, .int .u64 3, .int .u64 4] 22 (0, 0))).mono ?_
  rintro e w' ⟨rfl, rfl⟩
  rw [ex3, ex6]
  go_wp2_with fail
  go_ret
  exact ⟨rfl, rfl⟩

set_option maxRecDepth 100000 in
set_option maxHeartbeats 1000000 in
theorem does_any (op a0 b0 : Int) (a b : BitVec 64) (ha : a0 = uv a) (hb : b0 = uv b) (w : World) :
    Calls Try.prog 3 #[.int .i64 op, .int .u64 a0, .int .u64 b0] w fun e w' => e = .returned (.bool true) ∧ Grown w w' := by
  subst ha hb
  go_enter Try.func3, Try.ntmps3
  go_wp2_with fail
  refine (awake_any w).mono ?_
  rintro e w' ⟨rfl, rfl⟩
  have hg : Grown w (w.alloc (.cells #[.int .u64 10, .int .u64 3, .int .u64 4] 22)) := Grown.alloc (Grown.refl _) _ _
  have HG := Lib.hid hg
  clear hg
  generalize w.alloc (.cells #[.int .u64 10, .int .u64 3, .int .u64 4] 22) = w1 at HG ⊢
  go_wp2_with fail
  go_loop [7] (fun i => ∃ k : Nat, k ≤ 24 ∧ i = .int .i64 k) (fun i => 24 - (intOf i).toNat)
  case atStart => exact ⟨0, Nat.zero_le _, rfl⟩
  case round =>
    obtain ⟨k, hk, rfl⟩ := hrel
    by_cases hlt : k < 24
    · go_wp2_with fail
      refine (do_any k a b w1).mono ?_
      rintro e w' ⟨rfl, rfl⟩
      go_wp2_with fail
      refine (rdo_any k a b w1).mono ?_
      rintro e w' ⟨rfl, rfl⟩
      go_wp2_with fail
      refine (hd_any k a b w1).mono ?_
      rintro e w' ⟨rfl, rfl⟩
      go_wp2_with fail
      refine (rhd_any k a b w1).mono ?_
      rintro e w' ⟨rfl, rfl⟩
      go_wp2_with fail
      go_round
      case rel => exact ⟨k + 1, by omega, by go_num⟩
      case measure => simp [intOf]; omega
    · go_wp2_with fail
      refine (do_any op a b w1).mono ?_
      rintro e w' ⟨rfl, rfl⟩
      go_wp2_with fail
      refine (rdo_any op a b w1).mono ?_
      rintro e w' ⟨rfl, rfl⟩
      go_wp2_with fail
      refine (hd_any op a b w1).mono ?_
      rintro e w' ⟨rfl, rfl⟩
      go_wp2_with fail
      refine (rhd_any op a b w1).mono ?_
      rintro e w' ⟨rfl, rfl⟩
      go_wp2_with fail
      go_ret
      exact ⟨rfl, HG.out⟩

end Go.Proofs.Ytonodmeacpaifaa
