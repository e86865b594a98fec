/-
  Add64, Mul64, Len64 of Go's library as the layer span calls them. Conditions: none.
  Layer 6: what operations make of two spans, over words of 64 bits; the walks of sum, product, divided, rest, ones, great, form, half. Conditions: those of each theorem.
-/
import Derived.Test.YtikkmkomlajnfaaGreatDoorWm06
import Derived.Laws.Externs
import Derived.Laws.Bits64b
import Derived.Lib.Mul64
import Derived.Shelf.Bits.Mul64
import Derived.Shelf.Sort.So_math_bits_Len64In
import Derived.Test.YtikkmkomlajnfaaGreatDoorWm01
import Derived.Test.YtikkmkomlajnfaaGreatDoorWm12
set_option linter.unusedVariables false
set_option linter.unusedSimpArgs false
section
namespace Go.Proofs.YtikkmkomlajnfaaGreatDoor.Sp
set_option maxRecDepth 100000
set_option maxHeartbeats 4000000
open Go.RowKit

/-- the carry of a sum of two words -/
def cy (a b : BitVec 64) : Int := if 18446744073709551616 ≤ a.toNat + b.toNat then 1 else 0
theorem add64 (a b : BitVec 64) (w : World) : (callFunc 149 #[.int .u64 (uv a), .int .u64 (uv b), .int .u64 0]).run Tryz.prog w =
 .ok (.value (.tuple #[.int .u64 (uv (a + b)), .int .u64 (cy a b)])) w := by
 rw [run_callFunc_extern Tryz.func149 (by kernel_rfl) (by kernel_rfl) (by kernel_rfl) (e := add64Entry) (by kernel_rfl), run_add64 (uv a) (uv b) 0 (uv_nonneg a) (uv_nonneg b) (Int.le_refl 0) (by decide)]
 simp only [Result.andThen]
 have h1 : (uv a + uv b + 0) % 18446744073709551616 = uv (a + b) := by
  rw [Int.add_zero, ← uv_add, IntKind.wrap_u64]
 have h2 : (uv a + uv b + 0) / 18446744073709551616 = cy a b := by
  have ha := a.isLt
  have hb := b.isLt
  unfold cy uv
  split <;> omega
 rw [h1, h2]

/-- the upper word of a product -/
def mhi (a b : BitVec 64) : Int := ((a.toNat * b.toNat / 18446744073709551616 : Nat) : Int)
theorem mul64_nat (x y : Nat) (hx : x < 18446744073709551616) (hy : y < 18446744073709551616) (w : World) :
 Calls Tryz.prog 150 #[.int .u64 x, .int .u64 y] w fun e w' => e = .returned (.tuple #[.int .u64 ((x * y / 18446744073709551616 : Nat) : Int), .int .u64 ((x * y % 18446744073709551616 : Nat) : Int)]) ∧ w' = w := by
 obtain ⟨bd, bt, bw, hhi⟩ := Lib.mul64_hi x y hx hy
 have ba := Lib.half_mul_le (a := x / 4294967296) (b := y / 4294967296) (by omega) (by omega)
 have bb := Lib.half_mul_le (a := x / 4294967296) (b := y % 4294967296) (by omega) (by omega)
 have bc := Lib.half_mul_le (a := x % 4294967296) (b := y / 4294967296) (by omega) (by omega)
 have ba' : x / 4294967296 * (y / 4294967296) < 18446744073709551616 := by omega
 have bb' : x / 4294967296 * (y % 4294967296) < 18446744073709551616 := by omega
 have bc' : x % 4294967296 * (y / 4294967296) < 18446744073709551616 := by omega
 have bh1 : x / 4294967296 * (y / 4294967296) + (x / 4294967296 * (y % 4294967296) + x % 4294967296 * (y % 4294967296) / 4294967296) / 4294967296 < 18446744073709551616 := by omega
 have bh : x / 4294967296 * (y / 4294967296) + (x / 4294967296 * (y % 4294967296) + x % 4294967296 * (y % 4294967296) / 4294967296) / 4294967296 + ((x / 4294967296 * (y % 4294967296) + x % 4294967296 * (y % 4294967296) / 4294967296) % 4294967296 + x % 4294967296 * (y / 4294967296)) / 4294967296 < 18446744073709551616 := by omega
 go_enter Tryz.func150, Tryz.ntmps150
 go_wp2
 simp only [Mul64.maskN x hx, Mul64.maskN y hy, Mul64.divN, Mul64.mulN, Mul64.addN, Mul64.wrapN _ bd, Mul64.wrapN _ bb', Mul64.wrapN _ bt, Mul64.maskN _ bt, Mul64.wrapN _ bc', Mul64.wrapN _ bw, Mul64.wrapN _ ba', Mul64.wrapN _ bh1, Mul64.wrapN _ bh, Mul64.wrapM (x * y)]
 rw [hhi]
 go_ret2
 exact ⟨rfl, rfl⟩
theorem mul64_any (a b : BitVec 64) (w : World) :
 Calls Tryz.prog 150 #[.int .u64 (uv a), .int .u64 (uv b)] w fun e w' => e = .returned (.tuple #[.int .u64 (mhi a b), .int .u64 (uv (a * b))]) ∧ w = w' :=
 (mul64_nat a.toNat b.toNat a.isLt b.isLt w).mono fun e w' ⟨he, hw⟩ => ⟨by rw [he]; unfold mhi uv; rw [BitVec.toNat_mul], hw.symm⟩

/-- how many bits a word has -/
def bl (a : BitVec 64) : Nat := Lib.bitLen a.toNat
theorem len64_int (x : Int) (w : World) (h0 : 0 ≤ x) (h1 : x ≤ 18446744073709551615) :
 Calls Tryz.prog 135 #[.int .u64 x] w fun e w' => e = .returned (.int .i64 (Lib.bitLen x.toNat)) ∧ w' = w := by
 go_enter Tryz.func135, Tryz.ntmps135
 go_wp2
 all_goals first
  | (go_ret; refine ⟨congrArg Ending.returned (congrArg (Value.int IntKind.i64) ?_), rfl⟩; go_light)
  | (exfalso
     go_light
     have hs := len8tab_size
     omega)
 all_goals first
  | (rw [len8_get (x / 4294967296 / 65536 / 256) _, Lib.len8_of (x / 4294967296 / 65536 / 256) (by omega) (by omega)]
     have e : (x / 4294967296 / 65536 / 256).toNat = x.toNat / 72057594037927936 := by omega
     have l := Lib.bitLen_le8' (x / 4294967296 / 65536 / 256) (by omega) (by omega)
     have s := Lib.bitLen_shift56 x.toNat (by omega) (by omega)
     rw [e] at l ⊢
     exact wrap_add 56 _ _ (by decide) l s)
  | (rw [len8_get (x / 4294967296 / 65536) _, Lib.len8_of (x / 4294967296 / 65536) (by omega) (by omega)]
     have e : (x / 4294967296 / 65536).toNat = x.toNat / 281474976710656 := by omega
     have l := Lib.bitLen_le8' (x / 4294967296 / 65536) (by omega) (by omega)
     have s := Lib.bitLen_shift48 x.toNat (by omega) (by omega)
     rw [e] at l ⊢
     exact wrap_add 48 _ _ (by decide) l s)
  | (rw [len8_get (x / 4294967296 / 256) _, Lib.len8_of (x / 4294967296 / 256) (by omega) (by omega)]
     have e : (x / 4294967296 / 256).toNat = x.toNat / 1099511627776 := by omega
     have l := Lib.bitLen_le8' (x / 4294967296 / 256) (by omega) (by omega)
     have s := Lib.bitLen_shift40 x.toNat (by omega) (by omega)
     rw [e] at l ⊢
     exact wrap_add 40 _ _ (by decide) l s)
  | (rw [len8_get (x / 4294967296) _, Lib.len8_of (x / 4294967296) (by omega) (by omega)]
     have e : (x / 4294967296).toNat = x.toNat / 4294967296 := by omega
     have l := Lib.bitLen_le8' (x / 4294967296) (by omega) (by omega)
     have s := Lib.bitLen_shift32 x.toNat (by omega) (by omega)
     rw [e] at l ⊢
     exact wrap_add 32 _ _ (by decide) l s)
  | (rw [len8_get (x / 65536 / 256) _, Lib.len8_of (x / 65536 / 256) (by omega) (by omega)]
     have e : (x / 65536 / 256).toNat = x.toNat / 16777216 := by omega
     have l := Lib.bitLen_le8' (x / 65536 / 256) (by omega) (by omega)
     have s := Lib.bitLen_shift24 x.toNat (by omega) (by omega)
     rw [e] at l ⊢
     exact wrap_add 24 _ _ (by decide) l s)
  | (rw [len8_get (x / 65536) _, Lib.len8_of (x / 65536) (by omega) (by omega)]
     have e : (x / 65536).toNat = x.toNat / 65536 := by omega
     have l := Lib.bitLen_le8' (x / 65536) (by omega) (by omega)
     have s := Lib.bitLen_shift16 x.toNat (by omega) (by omega)
     rw [e] at l ⊢
     exact wrap_add 16 _ _ (by decide) l s)
  | (rw [len8_get (x / 256) _, Lib.len8_of (x / 256) (by omega) (by omega)]
     have e : (x / 256).toNat = x.toNat / 256 := by omega
     have l := Lib.bitLen_le8' (x / 256) (by omega) (by omega)
     have s := Lib.bitLen_shift8 x.toNat (by omega) (by omega)
     rw [e] at l ⊢
     exact wrap_add 8 _ _ (by decide) l s)
  | (rw [len8_get (x) _, Lib.len8_of (x) (by omega) (by omega)]
     have e : (x).toNat = x.toNat := by omega
     have l := Lib.bitLen_le8' (x) (by omega) (by omega)
     rw [e] at l ⊢
     first | exact wrap_wrap _ l | exact wrap_add 0 _ _ (by decide) l (by omega) | exact wrap_one _ l)
theorem len64_any (a : BitVec 64) (w : World) :
 Calls Tryz.prog 135 #[.int .u64 (uv a)] w fun e w' => e = .returned (.int .i64 (bl a)) ∧ w = w' :=
 (len64_int (uv a) w (uv_nonneg a) (uv_le a)).mono fun e w' ⟨he, hw⟩ => ⟨by rw [he, uv_toNat]; rfl, hw.symm⟩

end Go.Proofs.YtikkmkomlajnfaaGreatDoor.Sp
end

section
namespace Go.Proofs.YtikkmkomlajnfaaGreatDoor.Sp
set_option maxRecDepth 100000
set_option maxHeartbeats 2000000
open Go.RowKit

abbrev BP := BitVec 64 × BitVec 64
def mostB : BitVec 64 := 18446744073709551615#64
def fullB : BP := (0#64, mostB)
def minB (x y : BitVec 64) : BitVec 64 := if y.toNat < x.toNat then y else x
def maxB (x y : BitVec 64) : BitVec 64 := if x.toNat < y.toNat then y else x
def onesB (n : BitVec 64) : BitVec 64 := 1#64 <<< bl n - 1#64
def sumV (al ah bl' bh : BitVec 64) : BP := if 18446744073709551616 ≤ ah.toNat + bh.toNat then fullB else (al + bl', ah + bh)
def subV (al ah bl' bh : BitVec 64) : BP := if al.toNat < bh.toNat then fullB else (al - bh, ah - bl')
def mulV (al ah bl' bh : BitVec 64) : BP := if 18446744073709551616 ≤ ah.toNat * bh.toNat then fullB else (al * bl', ah * bh)
def divV (al ah bl' bh : BitVec 64) : BP := if bl' = 0#64 then (0#64, ah) else (al / bh, ah / bl')
def remV (al ah bl' bh : BitVec 64) : BP := if bl' = 0#64 then (0#64, ah) else if ah.toNat < bl'.toNat then (al, ah) else (0#64, minB ah (bh - 1#64))
def andV (_ ah _ bh : BitVec 64) : BP := (0#64, minB ah bh)
def orV (al ah bl' bh : BitVec 64) : BP := (maxB al bl', onesB (ah ||| bh))
def xorV (_ ah _ bh : BitVec 64) : BP := (0#64, onesB (ah ||| bh))
def shlV (al ah bl' bh : BitVec 64) : BP := if bl' ≠ bh then fullB else if ah ≠ 0#64 ∧ 64 < bl ah + bl'.toNat then fullB else (al <<< bl'.toNat, ah <<< bl'.toNat)
def shrV (al ah bl' bh : BitVec 64) : BP := (al >>> bh.toNat, ah >>> bl'.toNat)

theorem uv_minM (x y : BitVec 64) : min (uv x) (uv y) = uv (minB x y) := by
 unfold uv minB; split <;> omega
theorem uv_maxM (x y : BitVec 64) : max (uv x) (uv y) = uv (maxB x y) := by
 unfold uv maxB; split <;> omega
theorem uv_minB (x y : BitVec 64) : (if uv y < uv x then uv y else uv x) = uv (minB x y) := uv_min x y
theorem uv_maxB (x y : BitVec 64) : (if uv x < uv y then uv y else uv x) = uv (maxB x y) := by
 unfold uv maxB; by_cases h : x.toNat < y.toNat
 · rw [if_pos h, if_pos (by omega)]
 rw [if_neg h, if_neg (by omega)]

theorem lt_bl : ∀ (n x : Nat), x ≤ n → x < 18446744073709551616 → x < 2 ^ Lib.bitLen x
 | 0, x, h, _ => by
   obtain rfl : x = 0 := by omega
   decide
 | n + 1, x, h, hx => by
   by_cases h0 : x = 0
   · rw [h0]; decide
   have ih := lt_bl n (x / 2) (by omega) (by omega)
   rw [Lib.bitLen_half x h0 hx, Nat.add_comm, Nat.pow_succ]
   omega
theorem bl_lt (a : BitVec 64) : a.toNat < 2 ^ bl a := lt_bl _ _ (Nat.le_refl _) a.isLt
theorem bl_le64 (a : BitVec 64) : bl a ≤ 64 := Lib.bitLen_le _ 64 (by omega) a.isLt
theorem bl_le {a : BitVec 64} {k : Nat} (hk : k ≤ 64) (h : a.toNat < 2 ^ k) : bl a ≤ k := Lib.bitLen_le _ k hk h
theorem bl_zero : bl 0#64 = 0 := by decide
theorem bl_ne {a : BitVec 64} (h : a ≠ 0#64) : 0 < bl a := by
 have h1 := bl_lt a
 have h2 : a.toNat ≠ 0 := fun e => h (BitVec.eq_of_toNat_eq (by simpa using e))
 rcases Nat.eq_zero_or_pos (bl a) with h3 | h3
 · rw [h3] at h1; omega
 exact h3
theorem bl_max (x y : BitVec 64) : bl (x ||| y) = bl (maxB x y) := by
 have hm : (maxB x y).toNat = max x.toNat y.toNat := by
  unfold maxB
  split <;> omega
 have hx := bl_lt (maxB x y)
 rw [hm] at hx
 have ho := bl_lt (x ||| y)
 rw [BitVec.toNat_or] at ho
 apply Nat.le_antisymm
 · apply bl_le (bl_le64 _)
   rw [BitVec.toNat_or]
   exact Nat.or_lt_two_pow (by omega) (by omega)
 apply bl_le (bl_le64 _)
 rw [hm]
 have h1 : x.toNat ≤ x.toNat ||| y.toNat := Nat.left_le_or
 have h2 : y.toNat ≤ x.toNat ||| y.toNat := Nat.right_le_or
 omega
theorem onesB_toNat (n : BitVec 64) : (onesB n).toNat = 2 ^ bl n - 1 := by
 have h := bl_le64 n
 unfold onesB
 generalize bl n = k at h
 have hp : 2 ^ k ≤ 2 ^ 64 := Nat.pow_le_pow_right (by omega) h
 have hk := Nat.two_pow_pos k
 rw [BitVec.toNat_sub, BitVec.toNat_shiftLeft, Nat.shiftLeft_eq]
 have e1 : (1#64).toNat = 1 := rfl
 rw [e1, Nat.one_mul]
 generalize 2 ^ k = P at hp hk
 omega
theorem onesB_max (x y : BitVec 64) : onesB (x ||| y) = onesB (maxB x y) := by unfold onesB; rw [bl_max]

/-- shifted: is the upper end, shifted, too great? -/
theorem shl_fits {a : BitVec 64} (k : Nat) (h : bl a + k ≤ 64) : a.toNat * 2 ^ k < 18446744073709551616 := by
 have h1 := bl_lt a
 have h2 : 2 ^ (bl a + k) ≤ 2 ^ 64 := Nat.pow_le_pow_right (by omega) h
 rw [Nat.pow_add] at h2
 have h3 : a.toNat * 2 ^ k < 2 ^ bl a * 2 ^ k := Nat.mul_lt_mul_of_pos_right h1 (Nat.two_pow_pos k)
 omega
theorem mhi_pos {a b : BitVec 64} (h : 18446744073709551616 ≤ a.toNat * b.toNat) : 0 < mhi a b := by
 unfold mhi
 have h1 : 0 < a.toNat * b.toNat / 18446744073709551616 := Nat.div_pos h (by omega)
 omega
theorem mhi_zero {a b : BitVec 64} (h : ¬ 18446744073709551616 ≤ a.toNat * b.toNat) : mhi a b = 0 := by
 unfold mhi
 rw [Nat.div_eq_of_lt (by omega)]; rfl
theorem cy_one {a b : BitVec 64} (h : 18446744073709551616 ≤ a.toNat + b.toNat) : cy a b = 1 := if_pos h
theorem cy_zero {a b : BitVec 64} (h : ¬ 18446744073709551616 ≤ a.toNat + b.toNat) : cy a b = 0 := if_neg h

attribute [local go_sem] uv_nonneg uv_wrap uv_add uv_sub uv_mul uv_add1 uv_sub1 uv_and uv_or uv_xor uv_andNot uv_and1 uv_not uv_notMax u64_signed uv_shr uv_shr1 uv_shl uv_shr63 uv_shl1 uv_1shl uv_tdiv uv_tdiv2 uv_tmod uv_shlMin uv_shrMin uv_div uv_mod uv_minM uv_maxM

theorem sum_any (w : World) (al ah bl' bh : BitVec 64) : Calls Tryz.prog 126 #[spVal (uv al) (uv ah), spVal (uv bl') (uv bh)] w fun e w' => e = .returned (spVal (uv (sumV al ah bl' bh).1) (uv (sumV al ah bl' bh).2)) ∧ Below w.heap.size w w' := by
 obtain ⟨V, hV⟩ : ∃ V, sumV al ah bl' bh = V := ⟨_, rfl⟩
 rw [hV]
 have HV := Lib.hid hV
 clear hV
 have HF := Lib.hid (fun w => full_any w)
 unfold spVal at HF ⊢
 have HA := Lib.hid (fun w => add64 ah bh w)
 by_cases h : 18446744073709551616 ≤ ah.toNat + bh.toNat
 · rw [cy_one h] at HA
   have HR := Lib.hid (show V = (0#64, mostB) by rw [← HV.out]; exact if_pos h)
   clear h
   go_enter Tryz.func126, Tryz.ntmps126
   go_upto_region 1 with fail
   obtain ⟨w3, q1, q2, q3, hw3, hq1, hq2, hq3, O1, O2, O3, B3, hq, -, -, -, -⟩ := thr w (uv al) (uv ah) (uv bl') (uv bh)
   rw [hw3, hq3, hq2, hq1]
   clear hw3 hq1 hq2 hq3
   obtain ⟨a0, a1, c0, c1, r0, r1, z0⟩ := fc3 O1 O2 O3
   go_wp2_with (simp only [HA.out])
   refine (HF.out w3).mono ?_
   rintro e w4 ⟨rfl, bx⟩
   have P := nx3 bx O1 O2 O3 B3
   clear bx O1 O2 O3 B3 a0 a1 c0 c1 r0 r1 z0
   obtain ⟨O1, O2, O3, B3⟩ := P
   obtain ⟨a0, a1, c0, c1, r0, r1, z0⟩ := fc3 O1 O2 O3
   go_wp2_with fail
   have hw := (B3.out.setCell (p := ⟨q3, 0, none⟩) hq.out (.int .u64 (0))).setCell (p := ⟨q3, 1, none⟩) hq.out (.int .u64 (18446744073709551615))
   have HOX := Lib.hid ((O3.out.set_ 0 (.int .u64 (0))).set_ 1 (.int .u64 (18446744073709551615)))
   generalize (w4.setCell ⟨q3, 0, none⟩ (.int .u64 (0))).setCell ⟨q3, 1, none⟩ (.int .u64 (18446744073709551615)) = wf at hw HOX ⊢
   have t0 := HOX.out.c0
   have t1 := HOX.out.c1
   exact bodyPost_ret (v := .agg #[.int .u64 (0), .int .u64 (18446744073709551615)]) (by simp [results, Tryz.results126, go_sem, t0, t1]) rfl ⟨by rw [HR.out] <;> first | done | rfl, hw⟩
 rw [cy_zero h] at HA
 have HR := Lib.hid (show V = (al + bl', ah + bh) by rw [← HV.out]; exact if_neg h)
 clear h
 go_enter Tryz.func126, Tryz.ntmps126
 go_upto_region 1 with fail
 obtain ⟨w3, q1, q2, q3, hw3, hq1, hq2, hq3, O1, O2, O3, B3, hq, -, -, -, -⟩ := thr w (uv al) (uv ah) (uv bl') (uv bh)
 rw [hw3, hq3, hq2, hq1]
 clear hw3 hq1 hq2 hq3
 obtain ⟨a0, a1, c0, c1, r0, r1, z0⟩ := fc3 O1 O2 O3
 go_wp2_with (simp only [HA.out])
 have hw := (B3.out.setCell (p := ⟨q3, 0, none⟩) hq.out (.int .u64 (uv (al + bl')))).setCell (p := ⟨q3, 1, none⟩) hq.out (.int .u64 (uv (ah + bh)))
 have HOX := Lib.hid ((O3.out.set_ 0 (.int .u64 (uv (al + bl')))).set_ 1 (.int .u64 (uv (ah + bh))))
 generalize (w3.setCell ⟨q3, 0, none⟩ (.int .u64 (uv (al + bl')))).setCell ⟨q3, 1, none⟩ (.int .u64 (uv (ah + bh))) = wf at hw HOX ⊢
 have t0 := HOX.out.c0
 have t1 := HOX.out.c1
 exact bodyPost_ret (v := .agg #[.int .u64 (uv (al + bl')), .int .u64 (uv (ah + bh))]) (by simp [results, Tryz.results126, go_sem, t0, t1]) rfl ⟨by rw [HR.out] <;> first | done | rfl, hw⟩

theorem product_any (w : World) (al ah bl' bh : BitVec 64) : Calls Tryz.prog 127 #[spVal (uv al) (uv ah), spVal (uv bl') (uv bh)] w fun e w' => e = .returned (spVal (uv (mulV al ah bl' bh).1) (uv (mulV al ah bl' bh).2)) ∧ Below w.heap.size w w' := by
 obtain ⟨V, hV⟩ : ∃ V, mulV al ah bl' bh = V := ⟨_, rfl⟩
 rw [hV]
 have HV := Lib.hid hV
 clear hV
 have HF := Lib.hid (fun w => full_any w)
 unfold spVal at HF ⊢
 have HA := Lib.hid (fun w => mul64_any ah bh w)
 by_cases h : 18446744073709551616 ≤ ah.toNat * bh.toNat
 · have g1 := mhi_pos h
   have HR := Lib.hid (show V = (0#64, mostB) by rw [← HV.out]; exact if_pos h)
   clear h
   go_enter Tryz.func127, Tryz.ntmps127
   go_upto_region 1 with fail
   obtain ⟨w3, q1, q2, q3, hw3, hq1, hq2, hq3, O1, O2, O3, B3, hq, -, -, -, -⟩ := thr w (uv al) (uv ah) (uv bl') (uv bh)
   rw [hw3, hq3, hq2, hq1]
   clear hw3 hq1 hq2 hq3
   obtain ⟨a0, a1, c0, c1, r0, r1, z0⟩ := fc3 O1 O2 O3
   go_wp2_with fail
   refine (HA.out w3).mono ?_
   rintro e wx ⟨rfl, rfl⟩
   go_wp2_with fail
   refine (HF.out w3).mono ?_
   rintro e w4 ⟨rfl, bx⟩
   have P := nx3 bx O1 O2 O3 B3
   clear bx O1 O2 O3 B3 a0 a1 c0 c1 r0 r1 z0
   obtain ⟨O1, O2, O3, B3⟩ := P
   obtain ⟨a0, a1, c0, c1, r0, r1, z0⟩ := fc3 O1 O2 O3
   go_wp2_with fail
   have hw := (B3.out.setCell (p := ⟨q3, 0, none⟩) hq.out (.int .u64 (0))).setCell (p := ⟨q3, 1, none⟩) hq.out (.int .u64 (18446744073709551615))
   have HOX := Lib.hid ((O3.out.set_ 0 (.int .u64 (0))).set_ 1 (.int .u64 (18446744073709551615)))
   generalize (w4.setCell ⟨q3, 0, none⟩ (.int .u64 (0))).setCell ⟨q3, 1, none⟩ (.int .u64 (18446744073709551615)) = wf at hw HOX ⊢
   have t0 := HOX.out.c0
   have t1 := HOX.out.c1
   exact bodyPost_ret (v := .agg #[.int .u64 (0), .int .u64 (18446744073709551615)]) (by simp [results, Tryz.results127, go_sem, t0, t1]) rfl ⟨by rw [HR.out] <;> first | done | rfl, hw⟩
 rw [mhi_zero h] at HA
 have HR := Lib.hid (show V = (al * bl', ah * bh) by rw [← HV.out]; exact if_neg h)
 clear h
 go_enter Tryz.func127, Tryz.ntmps127
 go_upto_region 1 with fail
 obtain ⟨w3, q1, q2, q3, hw3, hq1, hq2, hq3, O1, O2, O3, B3, hq, -, -, -, -⟩ := thr w (uv al) (uv ah) (uv bl') (uv bh)
 rw [hw3, hq3, hq2, hq1]
 clear hw3 hq1 hq2 hq3
 obtain ⟨a0, a1, c0, c1, r0, r1, z0⟩ := fc3 O1 O2 O3
 go_wp2_with fail
 refine (HA.out w3).mono ?_
 rintro e wx ⟨rfl, rfl⟩
 go_wp2_with fail
 have hw := (B3.out.setCell (p := ⟨q3, 0, none⟩) hq.out (.int .u64 (uv (al * bl')))).setCell (p := ⟨q3, 1, none⟩) hq.out (.int .u64 (uv (ah * bh)))
 have HOX := Lib.hid ((O3.out.set_ 0 (.int .u64 (uv (al * bl')))).set_ 1 (.int .u64 (uv (ah * bh))))
 generalize (w3.setCell ⟨q3, 0, none⟩ (.int .u64 (uv (al * bl')))).setCell ⟨q3, 1, none⟩ (.int .u64 (uv (ah * bh))) = wf at hw HOX ⊢
 have t0 := HOX.out.c0
 have t1 := HOX.out.c1
 exact bodyPost_ret (v := .agg #[.int .u64 (uv (al * bl')), .int .u64 (uv (ah * bh))]) (by simp [results, Tryz.results127, go_sem, t0, t1]) rfl ⟨by rw [HR.out] <;> first | done | rfl, hw⟩

theorem divided_any (w : World) (al ah bl' bh : BitVec 64) (hle : bl'.toNat ≤ bh.toNat) : Calls Tryz.prog 128 #[spVal (uv al) (uv ah), spVal (uv bl') (uv bh)] w fun e w' => e = .returned (spVal (uv (divV al ah bl' bh).1) (uv (divV al ah bl' bh).2)) ∧ Below w.heap.size w w' := by
 obtain ⟨V, hV⟩ : ∃ V, divV al ah bl' bh = V := ⟨_, rfl⟩
 rw [hV]
 have HV := Lib.hid hV
 clear hV
 have HF := Lib.hid (fun w => full_any w)
 unfold spVal at HF ⊢
 by_cases h : bl' = 0#64
 · have g1 := uv_beq0 h
   have HR := Lib.hid (show V = (0#64, ah) by rw [← HV.out]; exact if_pos h)
   clear h hle
   go_enter Tryz.func128, Tryz.ntmps128
   go_upto_region 1 with fail
   obtain ⟨w3, q1, q2, q3, hw3, hq1, hq2, hq3, O1, O2, O3, B3, hq, -, -, -, -⟩ := thr w (uv al) (uv ah) (uv bl') (uv bh)
   rw [hw3, hq3, hq2, hq1]
   clear hw3 hq1 hq2 hq3
   obtain ⟨a0, a1, c0, c1, r0, r1, z0⟩ := fc3 O1 O2 O3
   go_wp2_with fail
   have hw := (B3.out.setCell (p := ⟨q3, 0, none⟩) hq.out (.int .u64 (0))).setCell (p := ⟨q3, 1, none⟩) hq.out (.int .u64 (uv ah))
   have HOX := Lib.hid ((O3.out.set_ 0 (.int .u64 (0))).set_ 1 (.int .u64 (uv ah)))
   generalize (w3.setCell ⟨q3, 0, none⟩ (.int .u64 (0))).setCell ⟨q3, 1, none⟩ (.int .u64 (uv ah)) = wf at hw HOX ⊢
   have t0 := HOX.out.c0
   have t1 := HOX.out.c1
   exact bodyPost_ret (v := .agg #[.int .u64 (0), .int .u64 (uv ah)]) (by simp [results, Tryz.results128, go_sem, t0, t1]) rfl ⟨by rw [HR.out] <;> first | done | rfl, hw⟩
 have g1 := uv_nbeq0 h
 have g2 := uv_ne0 h
 have g3 : ¬ uv bh = 0 := uv_ne0 (fun e => h (BitVec.eq_of_toNat_eq (by rw [e] at hle; simpa using hle)))
 have HR := Lib.hid (show V = (al / bh, ah / bl') by rw [← HV.out]; exact if_neg h)
 clear h hle
 go_enter Tryz.func128, Tryz.ntmps128
 go_upto_region 1 with fail
 obtain ⟨w3, q1, q2, q3, hw3, hq1, hq2, hq3, O1, O2, O3, B3, hq, -, -, -, -⟩ := thr w (uv al) (uv ah) (uv bl') (uv bh)
 rw [hw3, hq3, hq2, hq1]
 clear hw3 hq1 hq2 hq3
 obtain ⟨a0, a1, c0, c1, r0, r1, z0⟩ := fc3 O1 O2 O3
 go_wp2_with fail
 go_region
 go_wp2_with fail
 have hw := (B3.out.setCell (p := ⟨q3, 0, none⟩) hq.out (.int .u64 (uv (al / bh)))).setCell (p := ⟨q3, 1, none⟩) hq.out (.int .u64 (uv (ah / bl')))
 have HOX := Lib.hid ((O3.out.set_ 0 (.int .u64 (uv (al / bh)))).set_ 1 (.int .u64 (uv (ah / bl'))))
 generalize (w3.setCell ⟨q3, 0, none⟩ (.int .u64 (uv (al / bh)))).setCell ⟨q3, 1, none⟩ (.int .u64 (uv (ah / bl'))) = wf at hw HOX ⊢
 have t0 := HOX.out.c0
 have t1 := HOX.out.c1
 exact bodyPost_ret (v := .agg #[.int .u64 (uv (al / bh)), .int .u64 (uv (ah / bl'))]) (by simp [results, Tryz.results128, go_sem, t0, t1]) rfl ⟨by rw [HR.out] <;> first | done | rfl, below_drewN hw 1⟩

theorem rest_any (w : World) (al ah bl' bh : BitVec 64) : Calls Tryz.prog 129 #[spVal (uv al) (uv ah), spVal (uv bl') (uv bh)] w fun e w' => e = .returned (spVal (uv (remV al ah bl' bh).1) (uv (remV al ah bl' bh).2)) ∧ Below w.heap.size w w' := by
 obtain ⟨V, hV⟩ : ∃ V, remV al ah bl' bh = V := ⟨_, rfl⟩
 rw [hV]
 have HV := Lib.hid hV
 clear hV
 have HF := Lib.hid (fun w => full_any w)
 unfold spVal at HF ⊢
 by_cases h : bl' = 0#64
 · have g1 := uv_beq0 h
   have HR := Lib.hid (show V = (0#64, ah) by rw [← HV.out]; exact if_pos h)
   clear h
   go_enter Tryz.func129, Tryz.ntmps129
   go_upto_region 1 with fail
   obtain ⟨w3, q1, q2, q3, hw3, hq1, hq2, hq3, O1, O2, O3, B3, hq, -, -, -, -⟩ := thr w (uv al) (uv ah) (uv bl') (uv bh)
   rw [hw3, hq3, hq2, hq1]
   clear hw3 hq1 hq2 hq3
   obtain ⟨a0, a1, c0, c1, r0, r1, z0⟩ := fc3 O1 O2 O3
   go_wp2_with fail
   have hw := (B3.out.setCell (p := ⟨q3, 0, none⟩) hq.out (.int .u64 (0))).setCell (p := ⟨q3, 1, none⟩) hq.out (.int .u64 (uv ah))
   have HOX := Lib.hid ((O3.out.set_ 0 (.int .u64 (0))).set_ 1 (.int .u64 (uv ah)))
   generalize (w3.setCell ⟨q3, 0, none⟩ (.int .u64 (0))).setCell ⟨q3, 1, none⟩ (.int .u64 (uv ah)) = wf at hw HOX ⊢
   have t0 := HOX.out.c0
   have t1 := HOX.out.c1
   exact bodyPost_ret (v := .agg #[.int .u64 (0), .int .u64 (uv ah)]) (by simp [results, Tryz.results129, go_sem, t0, t1]) rfl ⟨by rw [HR.out] <;> first | done | rfl, hw⟩
 have g1 := uv_nbeq0 h
 by_cases h2 : ah.toNat < bl'.toNat
 · have g2 := uv_dec_lt h2
   have HR := Lib.hid (show V = (al, ah) by rw [← HV.out]; exact (if_neg h).trans (if_pos h2))
   clear h h2
   go_enter Tryz.func129, Tryz.ntmps129
   go_upto_region 1 with fail
   obtain ⟨w3, q1, q2, q3, hw3, hq1, hq2, hq3, O1, O2, O3, B3, hq, -, -, -, -⟩ := thr w (uv al) (uv ah) (uv bl') (uv bh)
   rw [hw3, hq3, hq2, hq1]
   clear hw3 hq1 hq2 hq3
   obtain ⟨a0, a1, c0, c1, r0, r1, z0⟩ := fc3 O1 O2 O3
   go_wp2_with fail
   have hw := (B3.out.setCell (p := ⟨q3, 0, none⟩) hq.out (.int .u64 (uv al))).setCell (p := ⟨q3, 1, none⟩) hq.out (.int .u64 (uv ah))
   have HOX := Lib.hid ((O3.out.set_ 0 (.int .u64 (uv al))).set_ 1 (.int .u64 (uv ah)))
   generalize (w3.setCell ⟨q3, 0, none⟩ (.int .u64 (uv al))).setCell ⟨q3, 1, none⟩ (.int .u64 (uv ah)) = wf at hw HOX ⊢
   have t0 := HOX.out.c0
   have t1 := HOX.out.c1
   exact bodyPost_ret (v := .agg #[.int .u64 (uv al), .int .u64 (uv ah)]) (by simp [results, Tryz.results129, go_sem, t0, t1]) rfl ⟨by rw [HR.out] <;> first | done | rfl, hw⟩
 have g2 := uv_dec_nlt h2
 have HR := Lib.hid (show V = (0#64, minB ah (bh - 1#64)) by rw [← HV.out]; exact (if_neg h).trans (if_neg h2))
 clear h h2
 go_enter Tryz.func129, Tryz.ntmps129
 go_upto_region 1 with fail
 obtain ⟨w3, q1, q2, q3, hw3, hq1, hq2, hq3, O1, O2, O3, B3, hq, -, -, -, -⟩ := thr w (uv al) (uv ah) (uv bl') (uv bh)
 rw [hw3, hq3, hq2, hq1]
 clear hw3 hq1 hq2 hq3
 obtain ⟨a0, a1, c0, c1, r0, r1, z0⟩ := fc3 O1 O2 O3
 go_wp2_with fail
 have hw := (B3.out.setCell (p := ⟨q3, 0, none⟩) hq.out (.int .u64 (0))).setCell (p := ⟨q3, 1, none⟩) hq.out (.int .u64 (uv (minB ah (bh - 1#64))))
 have HOX := Lib.hid ((O3.out.set_ 0 (.int .u64 (0))).set_ 1 (.int .u64 (uv (minB ah (bh - 1#64)))))
 generalize (w3.setCell ⟨q3, 0, none⟩ (.int .u64 (0))).setCell ⟨q3, 1, none⟩ (.int .u64 (uv (minB ah (bh - 1#64)))) = wf at hw HOX ⊢
 have t0 := HOX.out.c0
 have t1 := HOX.out.c1
 exact bodyPost_ret (v := .agg #[.int .u64 (0), .int .u64 (uv (minB ah (bh - 1#64)))]) (by simp [results, Tryz.results129, go_sem, t0, t1]) rfl ⟨by rw [HR.out] <;> first | done | rfl, hw⟩

theorem ones_any (n : BitVec 64) (w : World) :
 Calls Tryz.prog 130 #[.int .u64 (uv n)] w fun e w' => e = .returned (.int .u64 (uv (onesB n))) ∧ w = w' := by
 have h64 := bl_le64 n
 have HM : Hid (min (bl n) 64 = bl n) := Lib.hid (Nat.min_eq_left h64)
 go_enter Tryz.func130, Tryz.ntmps130
 go_wp2_with fail
 refine (len64_any n w).mono ?_
 rintro e w' ⟨rfl, rfl⟩
 go_wp2_with fail
 go_ret
 exact ⟨ret_int (by unfold onesB; first | rfl | rw [HM.out]), rfl⟩

end Go.Proofs.YtikkmkomlajnfaaGreatDoor.Sp
end
