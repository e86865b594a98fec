/-
  The laws ArithHolds, ArithLaws: their walks. Conditions: none.
-/
import Derived.Test.YtonodmeacpaifaaArithAwake
namespace Go.Proofs.Ytonodmeacpaifaa
open Go.RowKit

set_option maxHeartbeats 400000 in
theorem one_any (op x y : Int) (a b : BitVec 64) (hx : x = uv a) (hy : y = uv b) (w : World) :
    Calls Try.prog 15 #[.int .i64 op, .int .u64 x, .int .u64 y] w fun e w' => e = .returned (.int .u64 (uv (AM.doV op a b))) ∧ w = w' := by
  subst hx hy
  go_enter Try.func15, Try.ntmps15
  go_wp2_with fail
  refine (do_any op a b w).mono ?_
  rintro e w' ⟨rfl, rfl⟩
  go_wp2_with fail
  go_ret
  exact ⟨rfl, rfl⟩

theorem hx1 (op : Int) (h : 16 ≤ op ∧ op ≤ 19) : AM.hdOk op = true := by unfold AM.hdOk; simpa using h

/-- ArithHolds once the answers of Holds are known -/
theorem holds_walk (a b : BitVec 64) (q l g : Bool) (h1 : AM.hdV 16 a b = q) (h3 : AM.hdV 18 a b = l) (h5 : AM.hdV 18 b a = g) (hq : q = !(l || g)) (hlg : (l && g) = false)
    (h6 : (uv (AM.doV 8 a b) == 0) = q) (h7 : decide (uv a < uv (AM.doV 2 a b)) = l) (w : World) :
    Calls Try.prog 6 #[.int .u64 (uv a), .int .u64 (uv b)] w fun e w' => e = .returned (.bool true) ∧ Grown w w' := by
  have h2 : AM.hdV 17 a b = !q := by rw [← h1]; simp [AM.hdV]
  have h4 : AM.hdV 19 a b = !l := by rw [← h3]; simp [AM.hdV]
  have H1 := Lib.hid h1
  have H2 := Lib.hid h2
  have H3 := Lib.hid h3
  have H4 := Lib.hid h4
  have H5 := Lib.hid h5
  clear h1 h2 h3 h4 h5
  go_enter Try.func6, Try.ntmps6
  go_wp2_with fail
  refine (awake_any w).mono ?_
  rintro e w' ⟨rfl, rfl⟩
  have hg : Grown w (w.alloc (.cells #[.int .u64 10, .int .u64 3, .int .u64 4] 22)) := Grown.alloc (Grown.refl _) _ _
  have HG := Lib.hid hg
  clear hg
  generalize w.alloc (.cells #[.int .u64 10, .int .u64 3, .int .u64 4] 22) = w1 at HG ⊢
  go_wp2_with fail
  refine (hd_any 16 a b w1).mono ?_
  rintro e w' ⟨rfl, rfl⟩
  rw [H1.out, hx1 16 (by omega)]
  go_wp2_with fail
  refine (hd_any 17 a b w1).mono ?_
  rintro e w' ⟨rfl, rfl⟩
  rw [H2.out, hx1 17 (by omega)]
  go_wp2_with fail
  refine (hd_any 18 a b w1).mono ?_
  rintro e w' ⟨rfl, rfl⟩
  rw [H3.out, hx1 18 (by omega)]
  go_wp2_with fail
  refine (hd_any 19 a b w1).mono ?_
  rintro e w' ⟨rfl, rfl⟩
  rw [H4.out, hx1 19 (by omega)]
  go_wp2_with fail
  refine (hd_any 18 b a w1).mono ?_
  rintro e w' ⟨rfl, rfl⟩
  rw [H5.out, hx1 18 (by omega)]
  cases q <;> cases l <;> cases g <;> simp at hq hlg <;> go_wp2_with fail
  all_goals
    refine (one_any 8 _ _ a b rfl rfl w1).mono ?_
    rintro e w' ⟨rfl, rfl⟩
    go_wp2_with fail
    try
      refine (one_any 2 _ _ a b rfl rfl w1).mono ?_
      rintro e w' ⟨rfl, rfl⟩
      go_wp2_with fail
    go_ret
    exact ⟨rfl, HG.out⟩

theorem holds_any (a b : BitVec 64) (w : World) :
    Calls Try.prog 6 #[.int .u64 (uv a), .int .u64 (uv b)] w fun e w' => e = .returned (.bool true) ∧ Grown w w' := by
  have hal := a.isLt
  have hbl := b.isLt
  have e8 : AM.doV 8 a b = a ^^^ b := rfl
  have e2 : AM.doV 2 a b = a - b := rfl
  have d1 : AM.hdV 16 a b = decide (a = b) := rfl
  have d3 : AM.hdV 18 a b = decide (a.toNat < b.toNat) := rfl
  have d5 : AM.hdV 18 b a = decide (b.toNat < a.toNat) := rfl
  have hs : (a - b).toNat = (2 ^ 64 - b.toNat + a.toNat) % 2 ^ 64 := BitVec.toNat_sub a b
  by_cases h : a = b
  · subst h
    refine holds_walk a a true false false (by simp [d1]) (by simp [d3]) (by simp [d5]) rfl rfl ?_ ?_ w
    · rw [e8, BitVec.xor_self]; rfl
    · rw [e2, BitVec.sub_self, uv_zero]; have := uv_nonneg a; simp; omega
  · have hx : a ^^^ b ≠ 0#64 := fun e => h (by
      have := congrArg (· ^^^ b) e
      simpa [BitVec.xor_assoc] using this)
    have hne : a.toNat ≠ b.toNat := fun e => h (BitVec.eq_of_toNat_eq e)
    by_cases hl : a.toNat < b.toNat
    · refine holds_walk a b false true false (by simp [d1, h]) (by simp [d3, hl]) (by simp [d5]; omega) rfl rfl ?_ ?_ w
      · rw [e8]; exact uv_nbeq0 hx
      · rw [e2]; exact uv_dec_lt (by omega)
    · refine holds_walk a b false false true (by simp [d1, h]) (by simp [d3]; omega) (by simp [d5]; omega) rfl rfl ?_ ?_ w
      · rw [e8]; exact uv_nbeq0 hx
      · rw [e2]; exact uv_dec_nlt (by omega)

theorem uv_rem64 (x : BitVec 64) : (uv x).tmod 64 = uv (x % 64#64) := uv_tmod x 64#64
theorem uv_64add (x : BitVec 64) : IntKind.u64.wrap (64 + uv x) = uv (64#64 + x) := uv_add 64#64 x
theorem uv_64add' (x : BitVec 64) : IntKind.u64.wrap (64 + uv x / (2 : Int)) = uv (64#64 + x >>> 1) := by rw [uv_shr1]; exact uv_64add _
theorem uv_same (x y : BitVec 64) (h : x = y) : (uv x != uv y) = false := by rw [h]; simp
theorem uv_sameE (x y : BitVec 64) (h : x = y) : (uv x == uv y) = true := by rw [h]; simp

set_option maxRecDepth 100000 in
set_option maxHeartbeats 4000000 in
theorem laws_any (a b c : BitVec 64) (w : World) :
    Calls Try.prog 5 #[.int .u64 (uv a), .int .u64 (uv b), .int .u64 (uv c)] w fun e w' => e = .returned (.bool true) ∧ Grown w w' := by
  have g1 : (uv (AM.doV 1 (AM.doV 3 (AM.doV 4 a b) b) (AM.doV 5 a b)) != uv a) = false := uv_same _ _ (AM.law1 a b)
  have g3 : (uv (AM.doV 2 (AM.doV 1 a b) b) != uv a) = false := uv_same _ _ (BitVec.add_sub_cancel a b)
  have g4 : (uv (AM.doV 3 a (AM.doV 1 b c)) != uv (AM.doV 1 (AM.doV 3 a b) (AM.doV 3 a c))) = false := uv_same _ _ BitVec.mul_add
  have g5 : (uv (AM.doV 1 (AM.doV 6 a b) (AM.doV 7 a b)) != uv (AM.doV 1 a b)) = false := uv_same _ _ (AM.law5 a b)
  have g6 : (uv (AM.doV 8 (AM.doV 8 a b) b) != uv a) = false := uv_same _ _ (AM.law6 a b)
  have g7 : (uv (AM.doV 2 (AM.doV 7 a b) (AM.doV 6 a b)) != uv (AM.doV 8 a b)) = false := uv_same _ _ (AM.law7 a b)
  have g8 : (uv (AM.doV 9 a (c % 64#64)) == uv (AM.doV 3 a (AM.doV 9 1#64 (c % 64#64)))) = true := uv_sameE _ _ (AM.law8 a _ (AM.mod64_lt c))
  have g9 : (uv (AM.doV 10 a (c % 64#64)) == uv (AM.doV 4 a (AM.doV 9 1#64 (c % 64#64)))) = true := uv_sameE _ _ (AM.law9 a _ (AM.mod64_lt c))
  have g10 : (uv (AM.doV 9 a (64#64 + c >>> 1)) == 0) = true := uv_beq0 (AM.law10 a c)
  have g11 : (uv (AM.doV 10 a (64#64 + c >>> 1)) == 0) = true := uv_beq0 (AM.law11 a c)
  have r1 := uv_rem64 c
  have r2 := uv_64add' c
  have r3 := uv_64add (c >>> 1)
  have r4 := uv_shr1 c
  go_enter Try.func5, Try.ntmps5
  go_wp2_with fail
  refine (awake_any w).mono ?_
  rintro e w' ⟨rfl, rfl⟩
  have hg : Grown w (w.alloc (.cells #[.int .u64 10, .int .u64 3, .int .u64 4] 22)) := Grown.alloc (Grown.refl _) _ _
  have HG := Lib.hid hg
  clear hg
  generalize w.alloc (.cells #[.int .u64 10, .int .u64 3, .int .u64 4] 22) = w1 at HG ⊢
  by_cases hb : b = 0#64
  · have f1 := uv_npos hb
    clear hb
    go_wp2_with fail
    refine (one_any 4 _ _ a b rfl rfl w1).mono ?_
    rintro e w' ⟨rfl, rfl⟩
    go_wp2_with fail
    refine (one_any 3 _ _ _ b rfl rfl w1).mono ?_
    rintro e w' ⟨rfl, rfl⟩
    go_wp2_with fail
    refine (one_any 5 _ _ a b rfl rfl w1).mono ?_
    rintro e w' ⟨rfl, rfl⟩
    go_wp2_with fail
    refine (one_any 1 _ _ _ _ rfl rfl w1).mono ?_
    rintro e w' ⟨rfl, rfl⟩
    go_wp2_with fail
    refine (one_any 1 _ _ a b rfl rfl w1).mono ?_
    rintro e w' ⟨rfl, rfl⟩
    go_wp2_with fail
    refine (one_any 2 _ _ _ b rfl rfl w1).mono ?_
    rintro e w' ⟨rfl, rfl⟩
    go_wp2_with fail
    refine (one_any 1 _ _ b c rfl rfl w1).mono ?_
    rintro e w' ⟨rfl, rfl⟩
    go_wp2_with fail
    refine (one_any 3 _ _ a _ rfl rfl w1).mono ?_
    rintro e w' ⟨rfl, rfl⟩
    go_wp2_with fail
    refine (one_any 3 _ _ a b rfl rfl w1).mono ?_
    rintro e w' ⟨rfl, rfl⟩
    go_wp2_with fail
    refine (one_any 3 _ _ a c rfl rfl w1).mono ?_
    rintro e w' ⟨rfl, rfl⟩
    go_wp2_with fail
    refine (one_any 1 _ _ _ _ rfl rfl w1).mono ?_
    rintro e w' ⟨rfl, rfl⟩
    go_wp2_with fail
    refine (one_any 6 _ _ a b rfl rfl w1).mono ?_
    rintro e w' ⟨rfl, rfl⟩
    go_wp2_with fail
    refine (one_any 7 _ _ a b rfl rfl w1).mono ?_
    rintro e w' ⟨rfl, rfl⟩
    go_wp2_with fail
    refine (one_any 1 _ _ _ _ rfl rfl w1).mono ?_
    rintro e w' ⟨rfl, rfl⟩
    go_wp2_with fail
    refine (one_any 1 _ _ a b rfl rfl w1).mono ?_
    rintro e w' ⟨rfl, rfl⟩
    go_wp2_with fail
    refine (one_any 8 _ _ a b rfl rfl w1).mono ?_
    rintro e w' ⟨rfl, rfl⟩
    go_wp2_with fail
    refine (one_any 8 _ _ _ b rfl rfl w1).mono ?_
    rintro e w' ⟨rfl, rfl⟩
    go_wp2_with fail
    refine (one_any 7 _ _ a b rfl rfl w1).mono ?_
    rintro e w' ⟨rfl, rfl⟩
    go_wp2_with fail
    refine (one_any 6 _ _ a b rfl rfl w1).mono ?_
    rintro e w' ⟨rfl, rfl⟩
    go_wp2_with fail
    refine (one_any 2 _ _ _ _ rfl rfl w1).mono ?_
    rintro e w' ⟨rfl, rfl⟩
    go_wp2_with fail
    refine (one_any 8 _ _ a b rfl rfl w1).mono ?_
    rintro e w' ⟨rfl, rfl⟩
    go_wp2_with fail
    refine (one_any 9 _ _ a (c % 64#64) rfl rfl w1).mono ?_
    rintro e w' ⟨rfl, rfl⟩
    go_wp2_with fail
    refine (one_any 9 _ _ 1#64 (c % 64#64) rfl rfl w1).mono ?_
    rintro e w' ⟨rfl, rfl⟩
    go_wp2_with fail
    refine (one_any 3 _ _ a _ rfl rfl w1).mono ?_
    rintro e w' ⟨rfl, rfl⟩
    go_wp2_with fail
    refine (one_any 10 _ _ a (c % 64#64) rfl rfl w1).mono ?_
    rintro e w' ⟨rfl, rfl⟩
    go_wp2_with fail
    refine (one_any 9 _ _ 1#64 (c % 64#64) rfl rfl w1).mono ?_
    rintro e w' ⟨rfl, rfl⟩
    go_wp2_with fail
    refine (one_any 4 _ _ a _ rfl rfl w1).mono ?_
    rintro e w' ⟨rfl, rfl⟩
    go_wp2_with fail
    refine (one_any 9 _ _ a (64#64 + c >>> 1) rfl rfl w1).mono ?_
    rintro e w' ⟨rfl, rfl⟩
    go_wp2_with fail
    refine (one_any 10 _ _ a (64#64 + c >>> 1) rfl rfl w1).mono ?_
    rintro e w' ⟨rfl, rfl⟩
    go_wp2_with fail
    go_ret
    exact ⟨rfl, HG.out⟩
  · have f1 := uv_pos hb
    have f2 : decide (uv b ≤ uv (AM.doV 5 a b)) = false := uv_dec_nle (AM.law2 a b hb)
    clear hb
    go_wp2_with fail
    refine (one_any 4 _ _ a b rfl rfl w1).mono ?_
    rintro e w' ⟨rfl, rfl⟩
    go_wp2_with fail
    refine (one_any 3 _ _ _ b rfl rfl w1).mono ?_
    rintro e w' ⟨rfl, rfl⟩
    go_wp2_with fail
    refine (one_any 5 _ _ a b rfl rfl w1).mono ?_
    rintro e w' ⟨rfl, rfl⟩
    go_wp2_with fail
    refine (one_any 1 _ _ _ _ rfl rfl w1).mono ?_
    rintro e w' ⟨rfl, rfl⟩
    go_wp2_with fail
    refine (one_any 5 _ _ a b rfl rfl w1).mono ?_
    rintro e w' ⟨rfl, rfl⟩
    go_wp2_with fail
    refine (one_any 1 _ _ a b rfl rfl w1).mono ?_
    rintro e w' ⟨rfl, rfl⟩
    go_wp2_with fail
    refine (one_any 2 _ _ _ b rfl rfl w1).mono ?_
    rintro e w' ⟨rfl, rfl⟩
    go_wp2_with fail
    refine (one_any 1 _ _ b c rfl rfl w1).mono ?_
    rintro e w' ⟨rfl, rfl⟩
    go_wp2_with fail
    refine (one_any 3 _ _ a _ rfl rfl w1).mono ?_
    rintro e w' ⟨rfl, rfl⟩
    go_wp2_with fail
    refine (one_any 3 _ _ a b rfl rfl w1).mono ?_
    rintro e w' ⟨rfl, rfl⟩
    go_wp2_with fail
    refine (one_any 3 _ _ a c rfl rfl w1).mono ?_
    rintro e w' ⟨rfl, rfl⟩
    go_wp2_with fail
    refine (one_any 1 _ _ _ _ rfl rfl w1).mono ?_
    rintro e w' ⟨rfl, rfl⟩
    go_wp2_with fail
    refine (one_any 6 _ _ a b rfl rfl w1).mono ?_
    rintro e w' ⟨rfl, rfl⟩
    go_wp2_with fail
    refine (one_any 7 _ _ a b rfl rfl w1).mono ?_
    rintro e w' ⟨rfl, rfl⟩
    go_wp2_with fail
    refine (one_any 1 _ _ _ _ rfl rfl w1).mono ?_
    rintro e w' ⟨rfl, rfl⟩
    go_wp2_with fail
    refine (one_any 1 _ _ a b rfl rfl w1).mono ?_
    rintro e w' ⟨rfl, rfl⟩
    go_wp2_with fail
    refine (one_any 8 _ _ a b rfl rfl w1).mono ?_
    rintro e w' ⟨rfl, rfl⟩
    go_wp2_with fail
    refine (one_any 8 _ _ _ b rfl rfl w1).mono ?_
    rintro e w' ⟨rfl, rfl⟩
    go_wp2_with fail
    refine (one_any 7 _ _ a b rfl rfl w1).mono ?_
    rintro e w' ⟨rfl, rfl⟩
    go_wp2_with fail
    refine (one_any 6 _ _ a b rfl rfl w1).mono ?_
    rintro e w' ⟨rfl, rfl⟩
    go_wp2_with fail
    refine (one_any 2 _ _ _ _ rfl rfl w1).mono ?_
    rintro e w' ⟨rfl, rfl⟩
    go_wp2_with fail
    refine (one_any 8 _ _ a b rfl rfl w1).mono ?_
    rintro e w' ⟨rfl, rfl⟩
    go_wp2_with fail
    refine (one_any 9 _ _ a (c % 64#64) rfl rfl w1).mono ?_
    rintro e w' ⟨rfl, rfl⟩
    go_wp2_with fail
    refine (one_any 9 _ _ 1#64 (c % 64#64) rfl rfl w1).mono ?_
    rintro e w' ⟨rfl, rfl⟩
    go_wp2_with fail
    refine (one_any 3 _ _ a _ rfl rfl w1).mono ?_
    rintro e w' ⟨rfl, rfl⟩
    go_wp2_with fail
    refine (one_any 10 _ _ a (c % 64#64) rfl rfl w1).mono ?_
    rintro e w' ⟨rfl, rfl⟩
    go_wp2_with fail
    refine (one_any 9 _ _ 1#64 (c % 64#64) rfl rfl w1).mono ?_
    rintro e w' ⟨rfl, rfl⟩
    go_wp2_with fail
    refine (one_any 4 _ _ a _ rfl rfl w1).mono ?_
    rintro e w' ⟨rfl, rfl⟩
    go_wp2_with fail
    refine (one_any 9 _ _ a (64#64 + c >>> 1) rfl rfl w1).mono ?_
    rintro e w' ⟨rfl, rfl⟩
    go_wp2_with fail
    refine (one_any 10 _ _ a (64#64 + c >>> 1) rfl rfl w1).mono ?_
    rintro e w' ⟨rfl, rfl⟩
    go_wp2_with fail
    go_ret
    exact ⟨rfl, HG.out⟩

end Go.Proofs.Ytonodmeacpaifaa
