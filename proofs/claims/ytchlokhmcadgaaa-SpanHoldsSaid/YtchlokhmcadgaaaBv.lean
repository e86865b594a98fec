/-
  Numbers of 64 bits as BitVec 64: 'uv x' is the number as the walk has it (an Int), closed to simp; how the walk's arithmetic on such numbers reads. Conditions: none.
-/
import Derived.WalkKit
import Derived.WalkSpells
import Derived.WalkLawsBesides
import Derived.Lib.Hide
namespace Go.Proofs.Ytchlokhmcadgaaa
open Go.RowKit

/-- the number of a word of 64 bits -/
def uv (x : BitVec 64) : Int := (x.toNat : Int)

theorem uv_nonneg (x : BitVec 64) : 0 ≤ uv x := Int.natCast_nonneg _
theorem uv_lt (x : BitVec 64) : uv x < 18446744073709551616 := by unfold uv; have := x.isLt; omega
theorem uv_le (x : BitVec 64) : uv x ≤ 18446744073709551615 := by unfold uv; have := x.isLt; omega
theorem uv_toNat (x : BitVec 64) : (uv x).toNat = x.toNat := by simp [uv]
theorem uv_zero : uv 0#64 = 0 := rfl
theorem uv_one : uv 1#64 = 1 := rfl
theorem uv_lit (n : Nat) (h : n < 18446744073709551616) : uv (BitVec.ofNat 64 n) = (n : Int) := by
  unfold uv; rw [BitVec.toNat_ofNat, Nat.mod_eq_of_lt (by omega)]
theorem uv_of (n : Int) (h0 : 0 ≤ n) (h1 : n < 18446744073709551616) : ∃ x : BitVec 64, n = uv x :=
  ⟨BitVec.ofNat 64 n.toNat, by rw [uv_lit _ (by omega)]; omega⟩
theorem uv_inj {x y : BitVec 64} : uv x = uv y ↔ x = y := by
  unfold uv
  constructor
  · intro h; exact BitVec.eq_of_toNat_eq (by omega)
  · rintro rfl; rfl
theorem uv_wf (x : BitVec 64) : (Lit.int .u64 (uv x)).wf = true := by
  have h0 := uv_nonneg x
  have h1 := uv_lt x
  simp [Lit.wf, IntKind.min, IntKind.max, IntKind.signed, IntKind.bits]
  omega
theorem uv_of_wf {n : Int} (h : (Lit.int .u64 n).wf = true) : ∃ x : BitVec 64, n = uv x := by
  simp [Lit.wf, IntKind.min, IntKind.max, IntKind.signed, IntKind.bits] at h
  exact uv_of n (by omega) (by omega)

theorem uv_wrap (x : BitVec 64) : IntKind.u64.wrap (uv x) = uv x := by
  rw [IntKind.wrap_u64]; have := uv_nonneg x; have := uv_lt x; omega
theorem uv_add (x y : BitVec 64) : IntKind.u64.wrap (uv x + uv y) = uv (x + y) := by
  rw [IntKind.wrap_u64]; unfold uv; rw [BitVec.toNat_add]; omega
theorem uv_sub (x y : BitVec 64) : IntKind.u64.wrap (uv x - uv y) = uv (x - y) := by
  rw [IntKind.wrap_u64]; unfold uv; rw [BitVec.toNat_sub]; have := x.isLt; have := y.isLt; omega
theorem uv_mul (x y : BitVec 64) : IntKind.u64.wrap (uv x * uv y) = uv (x * y) := by
  rw [IntKind.wrap_u64]; unfold uv; rw [BitVec.toNat_mul, ← Int.natCast_mul]; omega
theorem uv_add1 (x : BitVec 64) : IntKind.u64.wrap (uv x + 1) = uv (x + 1#64) := uv_add x 1#64
theorem uv_sub1 (x : BitVec 64) : IntKind.u64.wrap (uv x - 1) = uv (x - 1#64) := uv_sub x 1#64
theorem uv_0add (x : BitVec 64) : IntKind.u64.wrap (0 + uv x) = uv x := by rw [Int.zero_add, uv_wrap]

theorem uv_and (x y : BitVec 64) : bits .and .u64 (uv x) (uv y) = uv (x &&& y) := by
  unfold uv; rw [u64_and_nat _ _ x.isLt y.isLt, BitVec.toNat_and]
theorem uv_or (x y : BitVec 64) : bits .or .u64 (uv x) (uv y) = uv (x ||| y) := by
  unfold uv; rw [u64_or_nat _ _ x.isLt y.isLt, BitVec.toNat_or]
theorem uv_xor (x y : BitVec 64) : bits .xor .u64 (uv x) (uv y) = uv (x ^^^ y) := by
  unfold uv; rw [u64_xor_nat _ _ x.isLt y.isLt, BitVec.toNat_xor]
theorem uv_andNot (x y : BitVec 64) : bits .andNot .u64 (uv x) (uv y) = uv (x &&& ~~~y) := by
  unfold uv; rw [u64_andNot_nat _ _ x.isLt y.isLt, BitVec.toNat_and, BitVec.toNat_not]
theorem uv_and1 (x : BitVec 64) : bits .and .u64 (uv x) 1 = uv (x &&& 1#64) := uv_and x 1#64
theorem uv_not (x : BitVec 64) : bits .xor .u64 18446744073709551615 (uv x) = uv (~~~x) := by
  have h := uv_xor (BitVec.allOnes 64) x
  have e : uv (BitVec.allOnes 64) = 18446744073709551615 := rfl
  rw [e] at h
  rw [h, BitVec.allOnes_xor]

theorem uv_notMax (x : BitVec 64) : bits .xor .u64 IntKind.u64.max (uv x) = uv (~~~x) := uv_not x
theorem u64_signed : IntKind.u64.signed = false := rfl
theorem uv_beq (x y : BitVec 64) : (uv x == uv y) = decide (x = y) := by
  rw [Bool.eq_iff_iff]; simp [uv_inj]
theorem uv_beq_one {x : BitVec 64} (h : (uv x == 1) = true) : x = 1#64 := uv_inj.1 (by rw [uv_one]; simpa using h)
theorem uv_bne_one {x : BitVec 64} (h : (uv x == 1) = false) : x ≠ 1#64 := fun e => by rw [e, uv_one] at h; simp at h

theorem uv_shr (x : BitVec 64) (k : Nat) : uv x / 2 ^ k = uv (x >>> k) := by
  unfold uv; rw [BitVec.toNat_ushiftRight, Nat.shiftRight_eq_div_pow, Int.natCast_ediv, Int.natCast_pow]; rfl
theorem uv_shr1 (x : BitVec 64) : uv x / (2 : Int) = uv (x >>> 1) := by
  have h := uv_shr x 1; rw [Int.pow_succ, Int.pow_zero, Int.one_mul] at h; exact h
theorem uv_shl (x : BitVec 64) (k : Nat) : IntKind.u64.wrap (uv x * 2 ^ k) = uv (x <<< k) := by
  rw [IntKind.wrap_u64]; unfold uv
  rw [BitVec.toNat_shiftLeft, Nat.shiftLeft_eq]
  have e : ((2 : Int) ^ k) = ((2 ^ k : Nat) : Int) := by rw [Int.natCast_pow]; rfl
  rw [e, ← Int.natCast_mul]; omega
theorem uv_shr63 (x : BitVec 64) : uv x / (9223372036854775808 : Int) = uv (x >>> 63) := by
  rw [← uv_shr]; rfl
theorem uv_shl1 (x : BitVec 64) : IntKind.u64.wrap (uv x * 2) = uv (x <<< 1) := by
  rw [← uv_shl]; rfl
theorem uv_1shl (k : Nat) : IntKind.u64.wrap (2 ^ k) = uv (1#64 <<< k) := by
  rw [← uv_shl, uv_one, Int.one_mul]
theorem uv_dec_le {x y : BitVec 64} (h : x.toNat ≤ y.toNat) : decide (uv x ≤ uv y) = true := by unfold uv; simp; omega
theorem uv_dec_nle {x y : BitVec 64} (h : ¬ x.toNat ≤ y.toNat) : decide (uv x ≤ uv y) = false := by unfold uv; simp; omega
theorem uv_dec_lt {x y : BitVec 64} (h : x.toNat < y.toNat) : decide (uv x < uv y) = true := by unfold uv; simp; omega
theorem uv_dec_nlt {x y : BitVec 64} (h : ¬ x.toNat < y.toNat) : decide (uv x < uv y) = false := by unfold uv; simp; omega
theorem uv_beq1 {x : BitVec 64} (h : x = 1#64) : (uv x == 1) = true := by rw [h]; rfl
theorem uv_nbeq1 {x : BitVec 64} (h : x ≠ 1#64) : (uv x == 1) = false := by
  rw [← uv_one, uv_beq]; simpa using h
theorem uv_beq0 {x : BitVec 64} (h : x = 0#64) : (uv x == 0) = true := by rw [h]; rfl
theorem uv_nbeq0 {x : BitVec 64} (h : x ≠ 0#64) : (uv x == 0) = false := by
  rw [← uv_zero, uv_beq]; simpa using h

theorem uv_tdiv (x y : BitVec 64) : IntKind.u64.wrap ((uv x).tdiv (uv y)) = uv (x / y) := by
  rw [Int.tdiv_eq_ediv_of_nonneg (uv_nonneg x)]
  have h : uv x / uv y = uv (x / y) := by unfold uv; rw [BitVec.toNat_udiv, Int.natCast_ediv]
  rw [h, uv_wrap]
theorem uv_tdiv2 (x : BitVec 64) : IntKind.u64.wrap ((uv x).tdiv 2) = uv (x >>> 1) := by
  rw [Int.tdiv_eq_ediv_of_nonneg (uv_nonneg x), uv_shr1, uv_wrap]
theorem uv_tmod (x y : BitVec 64) : (uv x).tmod (uv y) = uv (x % y) := by
  rw [Int.tmod_eq_emod_of_nonneg (uv_nonneg x)]
  unfold uv; rw [BitVec.toNat_umod, Int.natCast_emod]
theorem uv_shlMin (x y : BitVec 64) : x <<< min (uv y).toNat 64 = x <<< y.toNat := by
  rw [uv_toNat]
  by_cases h : y.toNat ≤ 64
  · rw [Nat.min_eq_left h]
  · rw [Nat.min_eq_right (by omega), BitVec.shiftLeft_eq_zero (by omega), BitVec.shiftLeft_eq_zero (by omega)]
theorem uv_shrMin (x y : BitVec 64) : x >>> min (uv y).toNat 64 = x >>> y.toNat := by
  rw [uv_toNat]
  by_cases h : y.toNat ≤ 64
  · rw [Nat.min_eq_left h]
  · rw [Nat.min_eq_right (by omega), BitVec.ushiftRight_eq_zero (by omega), BitVec.ushiftRight_eq_zero (by omega)]
theorem uv_eq0 {x : BitVec 64} (h : x = 0#64) : uv x = 0 := by rw [h]; rfl
theorem uv_ne0 {x : BitVec 64} (h : x ≠ 0#64) : ¬ uv x = 0 := fun e => h (uv_inj.1 (by rw [e]; rfl))

theorem uv_bne (x y : BitVec 64) : (uv x != uv y) = !decide (x = y) := by rw [bne, uv_beq]
theorem uv_dlt (x y : BitVec 64) : decide (uv x < uv y) = decide (x.toNat < y.toNat) := by
  unfold uv; rw [Bool.eq_iff_iff]; simp
theorem uv_dle (x y : BitVec 64) : decide (uv x ≤ uv y) = !decide (y.toNat < x.toNat) := by
  unfold uv; rw [Bool.eq_iff_iff]; simp
theorem uv_pos {x : BitVec 64} (h : x ≠ 0#64) : 0 < uv x := by have := uv_nonneg x; have := uv_ne0 h; omega
theorem uv_npos {x : BitVec 64} (h : x = 0#64) : decide (0 < uv x) = false := by rw [h]; rfl
theorem uv_dlt0 (x : BitVec 64) : decide (0 < uv x) = !decide (x = 0#64) := by
  by_cases h : x = 0#64
  · rw [uv_npos h]; simp [h]
  · have := uv_pos h; simp [h, this]
theorem nat_lt_uv {k : Nat} {x : BitVec 64} (h : k < x.toNat) : (k : Int) < uv x := by unfold uv; omega
theorem nat_nlt_uv {k : Nat} {x : BitVec 64} (h : ¬ k < x.toNat) : decide ((k : Int) < uv x) = false := by unfold uv; simp; omega
theorem uv_div (x y : BitVec 64) : uv x / uv y = uv (x / y) := by
  unfold uv; rw [BitVec.toNat_udiv, Int.natCast_ediv]
theorem uv_mod (x y : BitVec 64) : uv x % uv y = uv (x % y) := by
  unfold uv; rw [BitVec.toNat_umod, Int.natCast_emod]

theorem uv_min (x y : BitVec 64) : (if uv y < uv x then uv y else uv x) = uv (if y.toNat < x.toNat then y else x) := by
  unfold uv; by_cases h : y.toNat < x.toNat
  · rw [if_pos h, if_pos (by omega)]
  · rw [if_neg h, if_neg (by omega)]

theorem ret_int {k : IntKind} {a b : Int} (h : a = b) : Ending.returned (.int k a) = .returned (.int k b) := by rw [h]
theorem ret_bool {a b : Bool} (h : a = b) : Ending.returned (.bool a) = .returned (.bool b) := by rw [h]

end Go.Proofs.Ytchlokhmcadgaaa
