/-
  Layer 6: what operations make of two spans, over words of 64 bits; the walks of sum, product, divided, rest, ones, great, form, half. Conditions: those of each theorem.
-/
import Derived.Test.YtchlokhmcadgaaaSpanB
import Derived.Test.YtchlokhmcadgaaaSpanM
namespace Go.Proofs.Ytchlokhmcadgaaa
open Go.RowKit

abbrev BP := BitVec 64 × BitVec 64
def mostB : BitVec 64 := 18446744073709551615#64
theorem uv_most : uv mostB = 18446744073709551615 := rfl
def fullB : BP := (0#64, mostB)
def minB (x y : BitVec 64) : BitVec 64 := if y.toNat < x.toNat then y else x
def maxB (x y : BitVec 64) : BitVec 64 := if x.toNat < y.toNat then y else x
def onesB (n : BitVec 64) : BitVec 64 := 1#64 <<< bl n - 1#64
def sumV (al ah bl' bh : BitVec 64) : BP := if 18446744073709551616 ≤ ah.toNat + bh.toNat then fullB else (al + bl', ah + bh)
def subV (al ah bl' bh : BitVec 64) : BP := if al.toNat < bh.toNat then fullB else (al - bh, ah - bl')
def mulV (al ah bl' bh : BitVec 64) : BP := if 18446744073709551616 ≤ ah.toNat * bh.toNat then fullB else (al * bl', ah * bh)
def divV (al ah bl' bh : BitVec 64) : BP := if bl' = 0#64 then (0#64, ah) else (al / bh, ah / bl')
def remV (al ah bl' bh : BitVec 64) : BP := if bl' = 0#64 then (0#64, ah) else if ah.toNat < bl'.toNat then (al, ah) else (0#64, minB ah (bh - 1#64))
def andV (_ ah _ bh : BitVec 64) : BP := (0#64, minB ah bh)
def orV (al ah bl' bh : BitVec 64) : BP := (maxB al bl', onesB (ah ||| bh))
def xorV (_ ah _ bh : BitVec 64) : BP := (0#64, onesB (ah ||| bh))
def shlV (al ah bl' bh : BitVec 64) : BP := if bl' ≠ bh then fullB else if ah ≠ 0#64 ∧ 64 < bl ah + bl'.toNat then fullB else (al <<< bl'.toNat, ah <<< bl'.toNat)
def shrV (al ah bl' bh : BitVec 64) : BP := (al >>> bh.toNat, ah >>> bl'.toNat)

theorem uv_minM (x y : BitVec 64) : min (uv x) (uv y) = uv (minB x y) := by
  unfold uv minB; split <;> omega
theorem uv_maxM (x y : BitVec 64) : max (uv x) (uv y) = uv (maxB x y) := by
  unfold uv maxB; split <;> omega
theorem uv_minB (x y : BitVec 64) : (if uv y < uv x then uv y else uv x) = uv (minB x y) := uv_min x y
theorem uv_maxB (x y : BitVec 64) : (if uv x < uv y then uv y else uv x) = uv (maxB x y) := by
  unfold uv maxB; by_cases h : x.toNat < y.toNat
  · rw [if_pos h, if_pos (by omega)]
  · rw [if_neg h, if_neg (by omega)]

theorem lt_bl : ∀ (n x : Nat), x ≤ n → x < 18446744073709551616 → x < 2 ^ Lib.bitLen x
  | 0, x, h, _ => by
    obtain rfl : x = 0 := by omega
    decide
  | n + 1, x, h, hx => by
    by_cases h0 : x = 0
    · rw [h0]; decide
    · have ih := lt_bl n (x / 2) (by omega) (by omega)
      rw [Lib.bitLen_half x h0 hx, Nat.add_comm, Nat.pow_succ]
      omega
theorem bl_lt (a : BitVec 64) : a.toNat < 2 ^ bl a := lt_bl _ _ (Nat.le_refl _) a.isLt
theorem bl_le64 (a : BitVec 64) : bl a ≤ 64 := Lib.bitLen_le _ 64 (by omega) a.isLt
theorem bl_le {a : BitVec 64} {k : Nat} (hk : k ≤ 64) (h : a.toNat < 2 ^ k) : bl a ≤ k := Lib.bitLen_le _ k hk h
theorem bl_pos {a : BitVec 64} {k : Nat} (h : k < bl a) : 2 ^ k ≤ a.toNat := by
  have h64 := bl_le64 a
  have h1 : ¬ a.toNat < 2 ^ k := fun h2 => by have := bl_le (by omega) h2; omega
  omega
theorem bl_zero : bl 0#64 = 0 := by decide
theorem bl_ne {a : BitVec 64} (h : a ≠ 0#64) : 0 < bl a := by
  have h1 := bl_lt a
  have h2 : a.toNat ≠ 0 := fun e => h (BitVec.eq_of_toNat_eq (by simpa using e))
  rcases Nat.eq_zero_or_pos (bl a) with h3 | h3
  · rw [h3] at h1; omega
  · exact h3
theorem bl_max (x y : BitVec 64) : bl (x ||| y) = bl (maxB x y) := by
  have hm : (maxB x y).toNat = max x.toNat y.toNat := by
    unfold maxB
    split <;> omega
  have hx := bl_lt (maxB x y)
  rw [hm] at hx
  have ho := bl_lt (x ||| y)
  rw [BitVec.toNat_or] at ho
  apply Nat.le_antisymm
  · apply bl_le (bl_le64 _)
    rw [BitVec.toNat_or]
    exact Nat.or_lt_two_pow (by omega) (by omega)
  · apply bl_le (bl_le64 _)
    rw [hm]
    have h1 : x.toNat ≤ x.toNat ||| y.toNat := Nat.left_le_or
    have h2 : y.toNat ≤ x.toNat ||| y.toNat := Nat.right_le_or
    omega
theorem onesB_toNat (n : BitVec 64) : (onesB n).toNat = 2 ^ bl n - 1 := by
  have h := bl_le64 n
  unfold onesB
  generalize bl n = k at h
  have hp : 2 ^ k ≤ 2 ^ 64 := Nat.pow_le_pow_right (by omega) h
  have hk := Nat.two_pow_pos k
  rw [BitVec.toNat_sub, BitVec.toNat_shiftLeft, Nat.shiftLeft_eq]
  have e1 : (1#64).toNat = 1 := rfl
  rw [e1, Nat.one_mul]
  generalize 2 ^ k = P at hp hk
  omega
theorem onesB_max (x y : BitVec 64) : onesB (x ||| y) = onesB (maxB x y) := by unfold onesB; rw [bl_max]

/-- form: the loop's number -/
def FormAt (n m : BitVec 64) (j : Nat) : Prop := m.toNat = 2 ^ j - 1 ∧ j ≤ bl n
theorem form_start (n : BitVec 64) : FormAt n 0#64 0 := ⟨rfl, Nat.zero_le _⟩
theorem form_lt {n m : BitVec 64} {j : Nat} (h : FormAt n m j) (hl : m.toNat < n.toNat) : j < bl n := by
  have h1 := bl_lt n
  rcases Nat.lt_or_ge j (bl n) with h2 | h2
  · exact h2
  · have h3 : 2 ^ bl n ≤ 2 ^ j := Nat.pow_le_pow_right (by omega) h2
    have := h.1
    omega
theorem form_step {n m : BitVec 64} {j : Nat} (h : FormAt n m j) (hl : m.toNat < n.toNat) : FormAt n (2#64 * m + 1#64) (j + 1) := by
  have h1 := form_lt h hl
  have h2 := bl_le64 n
  refine ⟨?_, h1⟩
  have hp : 2 ^ (j + 1) ≤ 2 ^ 64 := Nat.pow_le_pow_right (by omega) (by omega)
  have hk := Nat.two_pow_pos j
  rw [Nat.pow_succ] at hp ⊢
  rw [BitVec.toNat_add, BitVec.toNat_mul, h.1]
  have e1 : (1#64).toNat = 1 := rfl
  have e2 : (2#64).toNat = 2 := rfl
  rw [e1, e2]
  generalize 2 ^ j = P at hp hk
  omega
theorem form_end {n m : BitVec 64} {j : Nat} (h : FormAt n m j) (hl : ¬ m.toNat < n.toNat) : m = onesB n := by
  apply BitVec.eq_of_toNat_eq
  rw [onesB_toNat, h.1]
  have hk := Nat.two_pow_pos j
  have h1 := h.1
  have h2 := bl_le64 n
  have h3 : bl n ≤ j := bl_le (by have := h.2; omega) (by omega)
  have h4 : bl n = j := by have := h.2; omega
  rw [h4]

/-- shifted: is the upper end, shifted, too great? -/
theorem shl_fits {a : BitVec 64} (k : Nat) (h : bl a + k ≤ 64) : a.toNat * 2 ^ k < 18446744073709551616 := by
  have h1 := bl_lt a
  have h2 : 2 ^ (bl a + k) ≤ 2 ^ 64 := Nat.pow_le_pow_right (by omega) h
  rw [Nat.pow_add] at h2
  have h3 : a.toNat * 2 ^ k < 2 ^ bl a * 2 ^ k := Nat.mul_lt_mul_of_pos_right h1 (Nat.two_pow_pos k)
  omega
theorem great_iff (a b : BitVec 64) : (0 < a.toNat ∧ 18446744073709551615 / a.toNat < b.toNat) ↔ 18446744073709551616 ≤ a.toNat * b.toNat := by
  constructor
  · rintro ⟨h1, h2⟩
    rw [Nat.div_lt_iff_lt_mul h1] at h2
    rw [Nat.mul_comm]; omega
  · intro h
    have h1 : 0 < a.toNat := by
      rcases Nat.eq_zero_or_pos a.toNat with h0 | h0
      · rw [h0] at h; omega
      · exact h0
    refine ⟨h1, ?_⟩
    rw [Nat.div_lt_iff_lt_mul h1, Nat.mul_comm]; omega
theorem mhi_pos {a b : BitVec 64} (h : 18446744073709551616 ≤ a.toNat * b.toNat) : 0 < mhi a b := by
  unfold mhi
  have h1 : 0 < a.toNat * b.toNat / 18446744073709551616 := Nat.div_pos h (by omega)
  omega
theorem mhi_zero {a b : BitVec 64} (h : ¬ 18446744073709551616 ≤ a.toNat * b.toNat) : mhi a b = 0 := by
  unfold mhi
  rw [Nat.div_eq_of_lt (by omega)]; rfl
theorem cy_one {a b : BitVec 64} (h : 18446744073709551616 ≤ a.toNat + b.toNat) : cy a b = 1 := if_pos h
theorem cy_zero {a b : BitVec 64} (h : ¬ 18446744073709551616 ≤ a.toNat + b.toNat) : cy a b = 0 := if_neg h

attribute [local go_sem] uv_nonneg uv_wrap uv_add uv_sub uv_mul uv_add1 uv_sub1 uv_and uv_or uv_xor uv_andNot uv_and1 uv_not uv_notMax u64_signed uv_shr uv_shr1 uv_shl uv_shr63 uv_shl1 uv_1shl uv_tdiv uv_tdiv2 uv_tmod uv_shlMin uv_shrMin uv_div uv_mod uv_minM uv_maxM

set_option maxRecDepth 100000 in
set_option maxHeartbeats 2000000 in
theorem sum_any (w : World) (al ah bl' bh : BitVec 64) : Calls Try.prog 28 #[spVal (uv al) (uv ah), spVal (uv bl') (uv bh)] w fun e w' => e = .returned (spVal (uv (sumV al ah bl' bh).1) (uv (sumV al ah bl' bh).2)) ∧ Below w.heap.size w w' := by
  obtain ⟨V, hV⟩ : ∃ V, sumV al ah bl' bh = V := ⟨_, rfl⟩
  rw [hV]
  have HV := Lib.hid hV
  clear hV
  have HF := Lib.hid (fun w => full_any w)
  unfold spVal at HF ⊢
  have HA := Lib.hid (fun w => add64 ah bh w)
  by_cases h : 18446744073709551616 ≤ ah.toNat + bh.toNat
  · rw [cy_one h] at HA
    have HR := Lib.hid (show V = (0#64, mostB) by rw [← HV.out]; exact if_pos h)
    clear h
    obtain ⟨o1, o2, o3, b3⟩ := three w (uv al) (uv ah) (uv bl') (uv bh)
    have O1 := Lib.hid o1
    have O2 := Lib.hid o2
    have O3 := Lib.hid o3
    have B3 := Lib.hid b3
    clear o1 o2 o3 b3
    have hp1 : Hid (w.heap.size ≤ w.heap.size + 1) := Lib.hid (by omega)
    have hp2 : Hid (w.heap.size ≤ w.heap.size + 2) := Lib.hid (by omega)
    go_enter Try.func28, Try.ntmps28
    go_upto_region 1 with fail
    generalize ((w.alloc (.cells #[.int .u64 (uv al), .int .u64 (uv ah)] 26)).alloc (.cells #[.int .u64 (uv bl'), .int .u64 (uv bh)] 26)).alloc (.cells #[.int .u64 0, .int .u64 0] 26) = w3 at O1 O2 O3 B3 ⊢
    obtain ⟨q1, hq1⟩ : ∃ q, w.heap.size = q := ⟨_, rfl⟩
    obtain ⟨q2, hq2⟩ : ∃ q, w.heap.size + 1 = q := ⟨_, rfl⟩
    obtain ⟨q3, hq3⟩ : ∃ q, w.heap.size + 2 = q := ⟨_, rfl⟩
    rw [hq3] at O3 hp2 ⊢
    rw [hq2] at O2 hp1 ⊢
    rw [hq1] at O1 ⊢
    have hq : Hid (w.heap.size ≤ q3) := Lib.hid (by omega)
    clear hq1 hq2 hq3 hp1 hp2
    have a0 : w3.cell? ⟨q1, 0, none⟩ = some (.int .u64 (uv al)) := O1.out.cell 0
    have a1 : w3.cell? ⟨q1, 1, none⟩ = some (.int .u64 (uv ah)) := O1.out.cell 1
    have c0 : w3.cell? ⟨q2, 0, none⟩ = some (.int .u64 (uv bl')) := O2.out.cell 0
    have c1 : w3.cell? ⟨q2, 1, none⟩ = some (.int .u64 (uv bh)) := O2.out.cell 1
    have r0 : w3.cell? ⟨q3, 0, none⟩ = some (.int .u64 0) := O3.out.cell 0
    have r1 : w3.cell? ⟨q3, 1, none⟩ = some (.int .u64 0) := O3.out.cell 1
    have z0 : ∀ i, w3.frozen? ⟨q3, i, none⟩ = false := O3.out.frozen
    go_wp2_with (simp only [HA.out])
    refine (HF.out w3).mono ?_
    rintro e w4 ⟨rfl, bx⟩
    have P1 := Lib.hid (O1.out.below bx O1.out.lt)
    have P2 := Lib.hid (O2.out.below bx O2.out.lt)
    have P3 := Lib.hid (O3.out.below bx O3.out.lt)
    have PB := Lib.hid (B3.out.trans (bx.mono B3.out.size))
    clear bx O1 O2 O3 B3 a0 a1 c0 c1 r0 r1 z0
    have O1 := Lib.hid P1.out
    have O2 := Lib.hid P2.out
    have O3 := Lib.hid P3.out
    have B3 := Lib.hid PB.out
    clear P1 P2 P3 PB
    have a0 : w4.cell? ⟨q1, 0, none⟩ = some (.int .u64 (uv al)) := O1.out.cell 0
    have a1 : w4.cell? ⟨q1, 1, none⟩ = some (.int .u64 (uv ah)) := O1.out.cell 1
    have c0 : w4.cell? ⟨q2, 0, none⟩ = some (.int .u64 (uv bl')) := O2.out.cell 0
    have c1 : w4.cell? ⟨q2, 1, none⟩ = some (.int .u64 (uv bh)) := O2.out.cell 1
    have r0 : w4.cell? ⟨q3, 0, none⟩ = some (.int .u64 0) := O3.out.cell 0
    have r1 : w4.cell? ⟨q3, 1, none⟩ = some (.int .u64 0) := O3.out.cell 1
    have z0 : ∀ i, w4.frozen? ⟨q3, i, none⟩ = false := O3.out.frozen
    go_wp2_with fail
    have hw := (B3.out.setCell (p := ⟨q3, 0, none⟩) hq.out (.int .u64 (0))).setCell (p := ⟨q3, 1, none⟩) hq.out (.int .u64 (18446744073709551615))
    have HOX := Lib.hid ((O3.out.set_ 0 (.int .u64 (0))).set_ 1 (.int .u64 (18446744073709551615)))
    generalize (w4.setCell ⟨q3, 0, none⟩ (.int .u64 (0))).setCell ⟨q3, 1, none⟩ (.int .u64 (18446744073709551615)) = wf at hw HOX ⊢
    have t0 : wf.cell? ⟨q3, 0, none⟩ = some (.int .u64 (0)) := HOX.out.cell 0
    have t1 : wf.cell? ⟨q3, 1, none⟩ = some (.int .u64 (18446744073709551615)) := HOX.out.cell 1
    exact bodyPost_ret (v := .agg #[.int .u64 (0), .int .u64 (18446744073709551615)]) (by simp [results, Try.results28, go_sem, t0, t1]) rfl ⟨by rw [HR.out] <;> first | done | rfl, hw⟩
  · rw [cy_zero h] at HA
    have HR := Lib.hid (show V = (al + bl', ah + bh) by rw [← HV.out]; exact if_neg h)
    clear h
    obtain ⟨o1, o2, o3, b3⟩ := three w (uv al) (uv ah) (uv bl') (uv bh)
    have O1 := Lib.hid o1
    have O2 := Lib.hid o2
    have O3 := Lib.hid o3
    have B3 := Lib.hid b3
    clear o1 o2 o3 b3
    have hp1 : Hid (w.heap.size ≤ w.heap.size + 1) := Lib.hid (by omega)
    have hp2 : Hid (w.heap.size ≤ w.heap.size + 2) := Lib.hid (by omega)
    go_enter Try.func28, Try.ntmps28
    go_upto_region 1 with fail
    generalize ((w.alloc (.cells #[.int .u64 (uv al), .int .u64 (uv ah)] 26)).alloc (.cells #[.int .u64 (uv bl'), .int .u64 (uv bh)] 26)).alloc (.cells #[.int .u64 0, .int .u64 0] 26) = w3 at O1 O2 O3 B3 ⊢
    obtain ⟨q1, hq1⟩ : ∃ q, w.heap.size = q := ⟨_, rfl⟩
    obtain ⟨q2, hq2⟩ : ∃ q, w.heap.size + 1 = q := ⟨_, rfl⟩
    obtain ⟨q3, hq3⟩ : ∃ q, w.heap.size + 2 = q := ⟨_, rfl⟩
    rw [hq3] at O3 hp2 ⊢
    rw [hq2] at O2 hp1 ⊢
    rw [hq1] at O1 ⊢
    have hq : Hid (w.heap.size ≤ q3) := Lib.hid (by omega)
    clear hq1 hq2 hq3 hp1 hp2
    have a0 : w3.cell? ⟨q1, 0, none⟩ = some (.int .u64 (uv al)) := O1.out.cell 0
    have a1 : w3.cell? ⟨q1, 1, none⟩ = some (.int .u64 (uv ah)) := O1.out.cell 1
    have c0 : w3.cell? ⟨q2, 0, none⟩ = some (.int .u64 (uv bl')) := O2.out.cell 0
    have c1 : w3.cell? ⟨q2, 1, none⟩ = some (.int .u64 (uv bh)) := O2.out.cell 1
    have r0 : w3.cell? ⟨q3, 0, none⟩ = some (.int .u64 0) := O3.out.cell 0
    have r1 : w3.cell? ⟨q3, 1, none⟩ = some (.int .u64 0) := O3.out.cell 1
    have z0 : ∀ i, w3.frozen? ⟨q3, i, none⟩ = false := O3.out.frozen
    go_wp2_with (simp only [HA.out])
    have hw := (B3.out.setCell (p := ⟨q3, 0, none⟩) hq.out (.int .u64 (uv (al + bl')))).setCell (p := ⟨q3, 1, none⟩) hq.out (.int .u64 (uv (ah + bh)))
    have HOX := Lib.hid ((O3.out.set_ 0 (.int .u64 (uv (al + bl')))).set_ 1 (.int .u64 (uv (ah + bh))))
    generalize (w3.setCell ⟨q3, 0, none⟩ (.int .u64 (uv (al + bl')))).setCell ⟨q3, 1, none⟩ (.int .u64 (uv (ah + bh))) = wf at hw HOX ⊢
    have t0 : wf.cell? ⟨q3, 0, none⟩ = some (.int .u64 (uv (al + bl'))) := HOX.out.cell 0
    have t1 : wf.cell? ⟨q3, 1, none⟩ = some (.int .u64 (uv (ah + bh))) := HOX.out.cell 1
    exact bodyPost_ret (v := .agg #[.int .u64 (uv (al + bl')), .int .u64 (uv (ah + bh))]) (by simp [results, Try.results28, go_sem, t0, t1]) rfl ⟨by rw [HR.out] <;> first | done | rfl, hw⟩

set_option maxRecDepth 100000 in
set_option maxHeartbeats 2000000 in
theorem product_any (w : World) (al ah bl' bh : BitVec 64) : Calls Try.prog 29 #[spVal (uv al) (uv ah), spVal (uv bl') (uv bh)] w fun e w' => e = .returned (spVal (uv (mulV al ah bl' bh).1) (uv (mulV al ah bl' bh).2)) ∧ Below w.heap.size w w' := by
  obtain ⟨V, hV⟩ : ∃ V, mulV al ah bl' bh = V := ⟨_, rfl⟩
  rw [hV]
  have HV := Lib.hid hV
  clear hV
  have HF := Lib.hid (fun w => full_any w)
  unfold spVal at HF ⊢
  have HA := Lib.hid (fun w => mul64_any ah bh w)
  by_cases h : 18446744073709551616 ≤ ah.toNat * bh.toNat
  · have g1 := mhi_pos h
    have HR := Lib.hid (show V = (0#64, mostB) by rw [← HV.out]; exact if_pos h)
    clear h
    obtain ⟨o1, o2, o3, b3⟩ := three w (uv al) (uv ah) (uv bl') (uv bh)
    have O1 := Lib.hid o1
    have O2 := Lib.hid o2
    have O3 := Lib.hid o3
    have B3 := Lib.hid b3
    clear o1 o2 o3 b3
    have hp1 : Hid (w.heap.size ≤ w.heap.size + 1) := Lib.hid (by omega)
    have hp2 : Hid (w.heap.size ≤ w.heap.size + 2) := Lib.hid (by omega)
    go_enter Try.func29, Try.ntmps29
    go_upto_region 1 with fail
    generalize ((w.alloc (.cells #[.int .u64 (uv al), .int .u64 (uv ah)] 26)).alloc (.cells #[.int .u64 (uv bl'), .int .u64 (uv bh)] 26)).alloc (.cells #[.int .u64 0, .int .u64 0] 26) = w3 at O1 O2 O3 B3 ⊢
    obtain ⟨q1, hq1⟩ : ∃ q, w.heap.size = q := ⟨_, rfl⟩
    obtain ⟨q2, hq2⟩ : ∃ q, w.heap.size + 1 = q := ⟨_, rfl⟩
    obtain ⟨q3, hq3⟩ : ∃ q, w.heap.size + 2 = q := ⟨_, rfl⟩
    rw [hq3] at O3 hp2 ⊢
    rw [hq2] at O2 hp1 ⊢
    rw [hq1] at O1 ⊢
    have hq : Hid (w.heap.size ≤ q3) := Lib.hid (by omega)
    clear hq1 hq2 hq3 hp1 hp2
    have a0 : w3.cell? ⟨q1, 0, none⟩ = some (.int .u64 (uv al)) := O1.out.cell 0
    have a1 : w3.cell? ⟨q1, 1, none⟩ = some (.int .u64 (uv ah)) := O1.out.cell 1
    have c0 : w3.cell? ⟨q2, 0, none⟩ = some (.int .u64 (uv bl')) := O2.out.cell 0
    have c1 : w3.cell? ⟨q2, 1, none⟩ = some (.int .u64 (uv bh)) := O2.out.cell 1
    have r0 : w3.cell? ⟨q3, 0, none⟩ = some (.int .u64 0) := O3.out.cell 0
    have r1 : w3.cell? ⟨q3, 1, none⟩ = some (.int .u64 0) := O3.out.cell 1
    have z0 : ∀ i, w3.frozen? ⟨q3, i, none⟩ = false := O3.out.frozen
    go_wp2_with fail
    refine (HA.out w3).mono ?_
    rintro e wx ⟨rfl, rfl⟩
    go_wp2_with fail
    refine (HF.out w3).mono ?_
    rintro e w4 ⟨rfl, bx⟩
    have P1 := Lib.hid (O1.out.below bx O1.out.lt)
    have P2 := Lib.hid (O2.out.below bx O2.out.lt)
    have P3 := Lib.hid (O3.out.below bx O3.out.lt)
    have PB := Lib.hid (B3.out.trans (bx.mono B3.out.size))
    clear bx O1 O2 O3 B3 a0 a1 c0 c1 r0 r1 z0
    have O1 := Lib.hid P1.out
    have O2 := Lib.hid P2.out
    have O3 := Lib.hid P3.out
    have B3 := Lib.hid PB.out
    clear P1 P2 P3 PB
    have a0 : w4.cell? ⟨q1, 0, none⟩ = some (.int .u64 (uv al)) := O1.out.cell 0
    have a1 : w4.cell? ⟨q1, 1, none⟩ = some (.int .u64 (uv ah)) := O1.out.cell 1
    have c0 : w4.cell? ⟨q2, 0, none⟩ = some (.int .u64 (uv bl')) := O2.out.cell 0
    have c1 : w4.cell? ⟨q2, 1, none⟩ = some (.int .u64 (uv bh)) := O2.out.cell 1
    have r0 : w4.cell? ⟨q3, 0, none⟩ = some (.int .u64 0) := O3.out.cell 0
    have r1 : w4.cell? ⟨q3, 1, none⟩ = some (.int .u64 0) := O3.out.cell 1
    have z0 : ∀ i, w4.frozen? ⟨q3, i, none⟩ = false := O3.out.frozen
    go_wp2_with fail
    have hw := (B3.out.setCell (p := ⟨q3, 0, none⟩) hq.out (.int .u64 (0))).setCell (p := ⟨q3, 1, none⟩) hq.out (.int .u64 (18446744073709551615))
    have HOX := Lib.hid ((O3.out.set_ 0 (.int .u64 (0))).set_ 1 (.int .u64 (18446744073709551615)))
    generalize (w4.setCell ⟨q3, 0, none⟩ (.int .u64 (0))).setCell ⟨q3, 1, none⟩ (.int .u64 (18446744073709551615)) = wf at hw HOX ⊢
    have t0 : wf.cell? ⟨q3, 0, none⟩ = some (.int .u64 (0)) := HOX.out.cell 0
    have t1 : wf.cell? ⟨q3, 1, none⟩ = some (.int .u64 (18446744073709551615)) := HOX.out.cell 1
    exact bodyPost_ret (v := .agg #[.int .u64 (0), .int .u64 (18446744073709551615)]) (by simp [results, Try.results29, go_sem, t0, t1]) rfl ⟨by rw [HR.out] <;> first | done | rfl, hw⟩
  · rw [mhi_zero h] at HA
    have HR := Lib.hid (show V = (al * bl', ah * bh) by rw [← HV.out]; exact if_neg h)
    clear h
    obtain ⟨o1, o2, o3, b3⟩ := three w (uv al) (uv ah) (uv bl') (uv bh)
    have O1 := Lib.hid o1
    have O2 := Lib.hid o2
    have O3 := Lib.hid o3
    have B3 := Lib.hid b3
    clear o1 o2 o3 b3
    have hp1 : Hid (w.heap.size ≤ w.heap.size + 1) := Lib.hid (by omega)
    have hp2 : Hid (w.heap.size ≤ w.heap.size + 2) := Lib.hid (by omega)
    go_enter Try.func29, Try.ntmps29
    go_upto_region 1 with fail
    generalize ((w.alloc (.cells #[.int .u64 (uv al), .int .u64 (uv ah)] 26)).alloc (.cells #[.int .u64 (uv bl'), .int .u64 (uv bh)] 26)).alloc (.cells #[.int .u64 0, .int .u64 0] 26) = w3 at O1 O2 O3 B3 ⊢
    obtain ⟨q1, hq1⟩ : ∃ q, w.heap.size = q := ⟨_, rfl⟩
    obtain ⟨q2, hq2⟩ : ∃ q, w.heap.size + 1 = q := ⟨_, rfl⟩
    obtain ⟨q3, hq3⟩ : ∃ q, w.heap.size + 2 = q := ⟨_, rfl⟩
    rw [hq3] at O3 hp2 ⊢
    rw [hq2] at O2 hp1 ⊢
    rw [hq1] at O1 ⊢
    have hq : Hid (w.heap.size ≤ q3) := Lib.hid (by omega)
    clear hq1 hq2 hq3 hp1 hp2
    have a0 : w3.cell? ⟨q1, 0, none⟩ = some (.int .u64 (uv al)) := O1.out.cell 0
    have a1 : w3.cell? ⟨q1, 1, none⟩ = some (.int .u64 (uv ah)) := O1.out.cell 1
    have c0 : w3.cell? ⟨q2, 0, none⟩ = some (.int .u64 (uv bl')) := O2.out.cell 0
    have c1 : w3.cell? ⟨q2, 1, none⟩ = some (.int .u64 (uv bh)) := O2.out.cell 1
    have r0 : w3.cell? ⟨q3, 0, none⟩ = some (.int .u64 0) := O3.out.cell 0
    have r1 : w3.cell? ⟨q3, 1, none⟩ = some (.int .u64 0) := O3.out.cell 1
    have z0 : ∀ i, w3.frozen? ⟨q3, i, none⟩ = false := O3.out.frozen
    go_wp2_with fail
    refine (HA.out w3).mono ?_
    rintro e wx ⟨rfl, rfl⟩
    go_wp2_with fail
    have hw := (B3.out.setCell (p := ⟨q3, 0, none⟩) hq.out (.int .u64 (uv (al * bl')))).setCell (p := ⟨q3, 1, none⟩) hq.out (.int .u64 (uv (ah * bh)))
    have HOX := Lib.hid ((O3.out.set_ 0 (.int .u64 (uv (al * bl')))).set_ 1 (.int .u64 (uv (ah * bh))))
    generalize (w3.setCell ⟨q3, 0, none⟩ (.int .u64 (uv (al * bl')))).setCell ⟨q3, 1, none⟩ (.int .u64 (uv (ah * bh))) = wf at hw HOX ⊢
    have t0 : wf.cell? ⟨q3, 0, none⟩ = some (.int .u64 (uv (al * bl'))) := HOX.out.cell 0
    have t1 : wf.cell? ⟨q3, 1, none⟩ = some (.int .u64 (uv (ah * bh))) := HOX.out.cell 1
    exact bodyPost_ret (v := .agg #[.int .u64 (uv (al * bl')), .int .u64 (uv (ah * bh))]) (by simp [results, Try.results29, go_sem, t0, t1]) rfl ⟨by rw [HR.out] <;> first | done | rfl, hw⟩

set_option maxRecDepth 100000 in
set_option maxHeartbeats 2000000 in
theorem divided_any (w : World) (al ah bl' bh : BitVec 64) (hle : bl'.toNat ≤ bh.toNat) : Calls Try.prog 30 #[spVal (uv al) (uv ah), spVal (uv bl') (uv bh)] w fun e w' => e = .returned (spVal (uv (divV al ah bl' bh).1) (uv (divV al ah bl' bh).2)) ∧ Below w.heap.size w w' := by
  obtain ⟨V, hV⟩ : ∃ V, divV al ah bl' bh = V := ⟨_, rfl⟩
  rw [hV]
  have HV := Lib.hid hV
  clear hV
  have HF := Lib.hid (fun w => full_any w)
  unfold spVal at HF ⊢
  by_cases h : bl' = 0#64
  · have g1 := uv_beq0 h
    have HR := Lib.hid (show V = (0#64, ah) by rw [← HV.out]; exact if_pos h)
    clear h hle
    obtain ⟨o1, o2, o3, b3⟩ := three w (uv al) (uv ah) (uv bl') (uv bh)
    have O1 := Lib.hid o1
    have O2 := Lib.hid o2
    have O3 := Lib.hid o3
    have B3 := Lib.hid b3
    clear o1 o2 o3 b3
    have hp1 : Hid (w.heap.size ≤ w.heap.size + 1) := Lib.hid (by omega)
    have hp2 : Hid (w.heap.size ≤ w.heap.size + 2) := Lib.hid (by omega)
    go_enter Try.func30, Try.ntmps30
    go_upto_region 1 with fail
    generalize ((w.alloc (.cells #[.int .u64 (uv al), .int .u64 (uv ah)] 26)).alloc (.cells #[.int .u64 (uv bl'), .int .u64 (uv bh)] 26)).alloc (.cells #[.int .u64 0, .int .u64 0] 26) = w3 at O1 O2 O3 B3 ⊢
    obtain ⟨q1, hq1⟩ : ∃ q, w.heap.size = q := ⟨_, rfl⟩
    obtain ⟨q2, hq2⟩ : ∃ q, w.heap.size + 1 = q := ⟨_, rfl⟩
    obtain ⟨q3, hq3⟩ : ∃ q, w.heap.size + 2 = q := ⟨_, rfl⟩
    rw [hq3] at O3 hp2 ⊢
    rw [hq2] at O2 hp1 ⊢
    rw [hq1] at O1 ⊢
    have hq : Hid (w.heap.size ≤ q3) := Lib.hid (by omega)
    clear hq1 hq2 hq3 hp1 hp2
    have a0 : w3.cell? ⟨q1, 0, none⟩ = some (.int .u64 (uv al)) := O1.out.cell 0
    have a1 : w3.cell? ⟨q1, 1, none⟩ = some (.int .u64 (uv ah)) := O1.out.cell 1
    have c0 : w3.cell? ⟨q2, 0, none⟩ = some (.int .u64 (uv bl')) := O2.out.cell 0
    have c1 : w3.cell? ⟨q2, 1, none⟩ = some (.int .u64 (uv bh)) := O2.out.cell 1
    have r0 : w3.cell? ⟨q3, 0, none⟩ = some (.int .u64 0) := O3.out.cell 0
    have r1 : w3.cell? ⟨q3, 1, none⟩ = some (.int .u64 0) := O3.out.cell 1
    have z0 : ∀ i, w3.frozen? ⟨q3, i, none⟩ = false := O3.out.frozen
    go_wp2_with fail
    have hw := (B3.out.setCell (p := ⟨q3, 0, none⟩) hq.out (.int .u64 (0))).setCell (p := ⟨q3, 1, none⟩) hq.out (.int .u64 (uv ah))
    have HOX := Lib.hid ((O3.out.set_ 0 (.int .u64 (0))).set_ 1 (.int .u64 (uv ah)))
    generalize (w3.setCell ⟨q3, 0, none⟩ (.int .u64 (0))).setCell ⟨q3, 1, none⟩ (.int .u64 (uv ah)) = wf at hw HOX ⊢
    have t0 : wf.cell? ⟨q3, 0, none⟩ = some (.int .u64 (0)) := HOX.out.cell 0
    have t1 : wf.cell? ⟨q3, 1, none⟩ = some (.int .u64 (uv ah)) := HOX.out.cell 1
    exact bodyPost_ret (v := .agg #[.int .u64 (0), .int .u64 (uv ah)]) (by simp [results, Try.results30, go_sem, t0, t1]) rfl ⟨by rw [HR.out] <;> first | done | rfl, hw⟩
  · have g1 := uv_nbeq0 h
    have g2 := uv_ne0 h
    have g3 : ¬ uv bh = 0 := uv_ne0 (fun e => h (BitVec.eq_of_toNat_eq (by rw [e] at hle; simpa using hle)))
    have HR := Lib.hid (show V = (al / bh, ah / bl') by rw [← HV.out]; exact if_neg h)
    clear h hle
    obtain ⟨o1, o2, o3, b3⟩ := three w (uv al) (uv ah) (uv bl') (uv bh)
    have O1 := Lib.hid o1
    have O2 := Lib.hid o2
    have O3 := Lib.hid o3
    have B3 := Lib.hid b3
    clear o1 o2 o3 b3
    have hp1 : Hid (w.heap.size ≤ w.heap.size + 1) := Lib.hid (by omega)
    have hp2 : Hid (w.heap.size ≤ w.heap.size + 2) := Lib.hid (by omega)
    go_enter Try.func30, Try.ntmps30
    go_upto_region 1 with fail
    generalize ((w.alloc (.cells #[.int .u64 (uv al), .int .u64 (uv ah)] 26)).alloc (.cells #[.int .u64 (uv bl'), .int .u64 (uv bh)] 26)).alloc (.cells #[.int .u64 0, .int .u64 0] 26) = w3 at O1 O2 O3 B3 ⊢
    obtain ⟨q1, hq1⟩ : ∃ q, w.heap.size = q := ⟨_, rfl⟩
    obtain ⟨q2, hq2⟩ : ∃ q, w.heap.size + 1 = q := ⟨_, rfl⟩
    obtain ⟨q3, hq3⟩ : ∃ q, w.heap.size + 2 = q := ⟨_, rfl⟩
    rw [hq3] at O3 hp2 ⊢
    rw [hq2] at O2 hp1 ⊢
    rw [hq1] at O1 ⊢
    have hq : Hid (w.heap.size ≤ q3) := Lib.hid (by omega)
    clear hq1 hq2 hq3 hp1 hp2
    have a0 : w3.cell? ⟨q1, 0, none⟩ = some (.int .u64 (uv al)) := O1.out.cell 0
    have a1 : w3.cell? ⟨q1, 1, none⟩ = some (.int .u64 (uv ah)) := O1.out.cell 1
    have c0 : w3.cell? ⟨q2, 0, none⟩ = some (.int .u64 (uv bl')) := O2.out.cell 0
    have c1 : w3.cell? ⟨q2, 1, none⟩ = some (.int .u64 (uv bh)) := O2.out.cell 1
    have r0 : w3.cell? ⟨q3, 0, none⟩ = some (.int .u64 0) := O3.out.cell 0
    have r1 : w3.cell? ⟨q3, 1, none⟩ = some (.int .u64 0) := O3.out.cell 1
    have z0 : ∀ i, w3.frozen? ⟨q3, i, none⟩ = false := O3.out.frozen
    go_wp2_with fail
    go_region
    go_wp2_with fail
    have hw := (B3.out.setCell (p := ⟨q3, 0, none⟩) hq.out (.int .u64 (uv (al / bh)))).setCell (p := ⟨q3, 1, none⟩) hq.out (.int .u64 (uv (ah / bl')))
    have HOX := Lib.hid ((O3.out.set_ 0 (.int .u64 (uv (al / bh)))).set_ 1 (.int .u64 (uv (ah / bl'))))
    generalize (w3.setCell ⟨q3, 0, none⟩ (.int .u64 (uv (al / bh)))).setCell ⟨q3, 1, none⟩ (.int .u64 (uv (ah / bl'))) = wf at hw HOX ⊢
    have t0 : wf.cell? ⟨q3, 0, none⟩ = some (.int .u64 (uv (al / bh))) := HOX.out.cell 0
    have t1 : wf.cell? ⟨q3, 1, none⟩ = some (.int .u64 (uv (ah / bl'))) := HOX.out.cell 1
    exact bodyPost_ret (v := .agg #[.int .u64 (uv (al / bh)), .int .u64 (uv (ah / bl'))]) (by simp [results, Try.results30, go_sem, t0, t1]) rfl ⟨by rw [HR.out] <;> first | done | rfl, below_drewN hw 1⟩

set_option maxRecDepth 100000 in
set_option maxHeartbeats 2000000 in
theorem rest_any (w : World) (al ah bl' bh : BitVec 64) : Calls Try.prog 31 #[spVal (uv al) (uv ah), spVal (uv bl') (uv bh)] w fun e w' => e = .returned (spVal (uv (remV al ah bl' bh).1) (uv (remV al ah bl' bh).2)) ∧ Below w.heap.size w w' := by
  obtain ⟨V, hV⟩ : ∃ V, remV al ah bl' bh = V := ⟨_, rfl⟩
  rw [hV]
  have HV := Lib.hid hV
  clear hV
  have HF := Lib.hid (fun w => full_any w)
  unfold spVal at HF ⊢
  by_cases h : bl' = 0#64
  · have g1 := uv_beq0 h
    have HR := Lib.hid (show V = (0#64, ah) by rw [← HV.out]; exact if_pos h)
    clear h
    obtain ⟨o1, o2, o3, b3⟩ := three w (uv al) (uv ah) (uv bl') (uv bh)
    have O1 := Lib.hid o1
    have O2 := Lib.hid o2
    have O3 := Lib.hid o3
    have B3 := Lib.hid b3
    clear o1 o2 o3 b3
    have hp1 : Hid (w.heap.size ≤ w.heap.size + 1) := Lib.hid (by omega)
    have hp2 : Hid (w.heap.size ≤ w.heap.size + 2) := Lib.hid (by omega)
    go_enter Try.func31, Try.ntmps31
    go_upto_region 1 with fail
    generalize ((w.alloc (.cells #[.int .u64 (uv al), .int .u64 (uv ah)] 26)).alloc (.cells #[.int .u64 (uv bl'), .int .u64 (uv bh)] 26)).alloc (.cells #[.int .u64 0, .int .u64 0] 26) = w3 at O1 O2 O3 B3 ⊢
    obtain ⟨q1, hq1⟩ : ∃ q, w.heap.size = q := ⟨_, rfl⟩
    obtain ⟨q2, hq2⟩ : ∃ q, w.heap.size + 1 = q := ⟨_, rfl⟩
    obtain ⟨q3, hq3⟩ : ∃ q, w.heap.size + 2 = q := ⟨_, rfl⟩
    rw [hq3] at O3 hp2 ⊢
    rw [hq2] at O2 hp1 ⊢
    rw [hq1] at O1 ⊢
    have hq : Hid (w.heap.size ≤ q3) := Lib.hid (by omega)
    clear hq1 hq2 hq3 hp1 hp2
    have a0 : w3.cell? ⟨q1, 0, none⟩ = some (.int .u64 (uv al)) := O1.out.cell 0
    have a1 : w3.cell? ⟨q1, 1, none⟩ = some (.int .u64 (uv ah)) := O1.out.cell 1
    have c0 : w3.cell? ⟨q2, 0, none⟩ = some (.int .u64 (uv bl')) := O2.out.cell 0
    have c1 : w3.cell? ⟨q2, 1, none⟩ = some (.int .u64 (uv bh)) := O2.out.cell 1
    have r0 : w3.cell? ⟨q3, 0, none⟩ = some (.int .u64 0) := O3.out.cell 0
    have r1 : w3.cell? ⟨q3, 1, none⟩ = some (.int .u64 0) := O3.out.cell 1
    have z0 : ∀ i, w3.frozen? ⟨q3, i, none⟩ = false := O3.out.frozen
    go_wp2_with fail
    have hw := (B3.out.setCell (p := ⟨q3, 0, none⟩) hq.out (.int .u64 (0))).setCell (p := ⟨q3, 1, none⟩) hq.out (.int .u64 (uv ah))
    have HOX := Lib.hid ((O3.out.set_ 0 (.int .u64 (0))).set_ 1 (.int .u64 (uv ah)))
    generalize (w3.setCell ⟨q3, 0, none⟩ (.int .u64 (0))).setCell ⟨q3, 1, none⟩ (.int .u64 (uv ah)) = wf at hw HOX ⊢
    have t0 : wf.cell? ⟨q3, 0, none⟩ = some (.int .u64 (0)) := HOX.out.cell 0
    have t1 : wf.cell? ⟨q3, 1, none⟩ = some (.int .u64 (uv ah)) := HOX.out.cell 1
    exact bodyPost_ret (v := .agg #[.int .u64 (0), .int .u64 (uv ah)]) (by simp [results, Try.results31, go_sem, t0, t1]) rfl ⟨by rw [HR.out] <;> first | done | rfl, hw⟩
  · have g1 := uv_nbeq0 h
    by_cases h2 : ah.toNat < bl'.toNat
    · have g2 := uv_dec_lt h2
      have HR := Lib.hid (show V = (al, ah) by rw [← HV.out]; exact (if_neg h).trans (if_pos h2))
      clear h h2
      obtain ⟨o1, o2, o3, b3⟩ := three w (uv al) (uv ah) (uv bl') (uv bh)
      have O1 := Lib.hid o1
      have O2 := Lib.hid o2
      have O3 := Lib.hid o3
      have B3 := Lib.hid b3
      clear o1 o2 o3 b3
      have hp1 : Hid (w.heap.size ≤ w.heap.size + 1) := Lib.hid (by omega)
      have hp2 : Hid (w.heap.size ≤ w.heap.size + 2) := Lib.hid (by omega)
      go_enter Try.func31, Try.ntmps31
      go_upto_region 1 with fail
      generalize ((w.alloc (.cells #[.int .u64 (uv al), .int .u64 (uv ah)] 26)).alloc (.cells #[.int .u64 (uv bl'), .int .u64 (uv bh)] 26)).alloc (.cells #[.int .u64 0, .int .u64 0] 26) = w3 at O1 O2 O3 B3 ⊢
      obtain ⟨q1, hq1⟩ : ∃ q, w.heap.size = q := ⟨_, rfl⟩
      obtain ⟨q2, hq2⟩ : ∃ q, w.heap.size + 1 = q := ⟨_, rfl⟩
      obtain ⟨q3, hq3⟩ : ∃ q, w.heap.size + 2 = q := ⟨_, rfl⟩
      rw [hq3] at O3 hp2 ⊢
      rw [hq2] at O2 hp1 ⊢
      rw [hq1] at O1 ⊢
      have hq : Hid (w.heap.size ≤ q3) := Lib.hid (by omega)
      clear hq1 hq2 hq3 hp1 hp2
      have a0 : w3.cell? ⟨q1, 0, none⟩ = some (.int .u64 (uv al)) := O1.out.cell 0
      have a1 : w3.cell? ⟨q1, 1, none⟩ = some (.int .u64 (uv ah)) := O1.out.cell 1
      have c0 : w3.cell? ⟨q2, 0, none⟩ = some (.int .u64 (uv bl')) := O2.out.cell 0
      have c1 : w3.cell? ⟨q2, 1, none⟩ = some (.int .u64 (uv bh)) := O2.out.cell 1
      have r0 : w3.cell? ⟨q3, 0, none⟩ = some (.int .u64 0) := O3.out.cell 0
      have r1 : w3.cell? ⟨q3, 1, none⟩ = some (.int .u64 0) := O3.out.cell 1
      have z0 : ∀ i, w3.frozen? ⟨q3, i, none⟩ = false := O3.out.frozen
      go_wp2_with fail
      have hw := (B3.out.setCell (p := ⟨q3, 0, none⟩) hq.out (.int .u64 (uv al))).setCell (p := ⟨q3, 1, none⟩) hq.out (.int .u64 (uv ah))
      have HOX := Lib.hid ((O3.out.set_ 0 (.int .u64 (uv al))).set_ 1 (.int .u64 (uv ah)))
      generalize (w3.setCell ⟨q3, 0, none⟩ (.int .u64 (uv al))).setCell ⟨q3, 1, none⟩ (.int .u64 (uv ah)) = wf at hw HOX ⊢
      have t0 : wf.cell? ⟨q3, 0, none⟩ = some (.int .u64 (uv al)) := HOX.out.cell 0
      have t1 : wf.cell? ⟨q3, 1, none⟩ = some (.int .u64 (uv ah)) := HOX.out.cell 1
      exact bodyPost_ret (v := .agg #[.int .u64 (uv al), .int .u64 (uv ah)]) (by simp [results, Try.results31, go_sem, t0, t1]) rfl ⟨by rw [HR.out] <;> first | done | rfl, hw⟩
    · have g2 := uv_dec_nlt h2
      have HR := Lib.hid (show V = (0#64, minB ah (bh - 1#64)) by rw [← HV.out]; exact (if_neg h).trans (if_neg h2))
      clear h h2
      obtain ⟨o1, o2, o3, b3⟩ := three w (uv al) (uv ah) (uv bl') (uv bh)
      have O1 := Lib.hid o1
      have O2 := Lib.hid o2
      have O3 := Lib.hid o3
      have B3 := Lib.hid b3
      clear o1 o2 o3 b3
      have hp1 : Hid (w.heap.size ≤ w.heap.size + 1) := Lib.hid (by omega)
      have hp2 : Hid (w.heap.size ≤ w.heap.size + 2) := Lib.hid (by omega)
      go_enter Try.func31, Try.ntmps31
      go_upto_region 1 with fail
      generalize ((w.alloc (.cells #[.int .u64 (uv al), .int .u64 (uv ah)] 26)).alloc (.cells #[.int .u64 (uv bl'), .int .u64 (uv bh)] 26)).alloc (.cells #[.int .u64 0, .int .u64 0] 26) = w3 at O1 O2 O3 B3 ⊢
      obtain ⟨q1, hq1⟩ : ∃ q, w.heap.size = q := ⟨_, rfl⟩
      obtain ⟨q2, hq2⟩ : ∃ q, w.heap.size + 1 = q := ⟨_, rfl⟩
      obtain ⟨q3, hq3⟩ : ∃ q, w.heap.size + 2 = q := ⟨_, rfl⟩
      rw [hq3] at O3 hp2 ⊢
      rw [hq2] at O2 hp1 ⊢
      rw [hq1] at O1 ⊢
      have hq : Hid (w.heap.size ≤ q3) := Lib.hid (by omega)
      clear hq1 hq2 hq3 hp1 hp2
      have a0 : w3.cell? ⟨q1, 0, none⟩ = some (.int .u64 (uv al)) := O1.out.cell 0
      have a1 : w3.cell? ⟨q1, 1, none⟩ = some (.int .u64 (uv ah)) := O1.out.cell 1
      have c0 : w3.cell? ⟨q2, 0, none⟩ = some (.int .u64 (uv bl')) := O2.out.cell 0
      have c1 : w3.cell? ⟨q2, 1, none⟩ = some (.int .u64 (uv bh)) := O2.out.cell 1
      have r0 : w3.cell? ⟨q3, 0, none⟩ = some (.int .u64 0) := O3.out.cell 0
      have r1 : w3.cell? ⟨q3, 1, none⟩ = some (.int .u64 0) := O3.out.cell 1
      have z0 : ∀ i, w3.frozen? ⟨q3, i, none⟩ = false := O3.out.frozen
      go_wp2_with fail
      have hw := (B3.out.setCell (p := ⟨q3, 0, none⟩) hq.out (.int .u64 (0))).setCell (p := ⟨q3, 1, none⟩) hq.out (.int .u64 (uv (minB ah (bh - 1#64))))
      have HOX := Lib.hid ((O3.out.set_ 0 (.int .u64 (0))).set_ 1 (.int .u64 (uv (minB ah (bh - 1#64)))))
      generalize (w3.setCell ⟨q3, 0, none⟩ (.int .u64 (0))).setCell ⟨q3, 1, none⟩ (.int .u64 (uv (minB ah (bh - 1#64)))) = wf at hw HOX ⊢
      have t0 : wf.cell? ⟨q3, 0, none⟩ = some (.int .u64 (0)) := HOX.out.cell 0
      have t1 : wf.cell? ⟨q3, 1, none⟩ = some (.int .u64 (uv (minB ah (bh - 1#64)))) := HOX.out.cell 1
      exact bodyPost_ret (v := .agg #[.int .u64 (0), .int .u64 (uv (minB ah (bh - 1#64)))]) (by simp [results, Try.results31, go_sem, t0, t1]) rfl ⟨by rw [HR.out] <;> first | done | rfl, hw⟩

set_option maxHeartbeats 1000000 in
theorem ones_any (n : BitVec 64) (w : World) :
    Calls Try.prog 32 #[.int .u64 (uv n)] w fun e w' => e = .returned (.int .u64 (uv (onesB n))) ∧ w = w' := by
  have h64 := bl_le64 n
  have HM : Hid (min (bl n) 64 = bl n) := Lib.hid (Nat.min_eq_left h64)
  go_enter Try.func32, Try.ntmps32
  go_wp2_with fail
  refine (len64_any n w).mono ?_
  rintro e w' ⟨rfl, rfl⟩
  go_wp2_with fail
  go_ret
  exact ⟨ret_int (by unfold onesB; first | rfl | rw [HM.out]), rfl⟩

set_option maxHeartbeats 1000000 in
theorem great_any (a b : BitVec 64) (w : World) :
    Calls Try.prog 35 #[.int .u64 (uv a), .int .u64 (uv b)] w fun e w' => e = .returned (.bool (decide (18446744073709551616 ≤ a.toNat * b.toNat))) ∧ w = w' := by
  have HG := Lib.hid (great_iff a b)
  have hmd : IntKind.u64.wrap ((18446744073709551615 : Int).tdiv (uv a)) = uv (mostB / a) := uv_tdiv mostB a
  have HQ := Lib.hid (show (mostB / a).toNat = 18446744073709551615 / a.toNat from BitVec.toNat_udiv)
  by_cases h0 : a = 0#64
  · have g1 := uv_npos h0
    have HR := Lib.hid (show decide (18446744073709551616 ≤ a.toNat * b.toNat) = false from decide_eq_false fun h => by rw [h0] at h; simp at h)
    rw [HR.out]
    clear h0
    go_enter Try.func35, Try.ntmps35
    go_wp2_with fail
    go_ret
    exact ⟨rfl, rfl⟩
  · have g1 := uv_pos h0
    have g2 := uv_ne0 h0
    have hp : 0 < a.toNat := by unfold uv at g1; omega
    have HR := Lib.hid (show decide (uv (mostB / a) < uv b) = decide (18446744073709551616 ≤ a.toNat * b.toNat) by
      rw [Bool.eq_iff_iff]
      simp only [decide_eq_true_eq]
      rw [← HG.out]
      unfold uv
      rw [HQ.out]
      constructor
      · intro h; exact ⟨hp, by omega⟩
      · intro h; have := h.2; omega)
    clear h0 hp
    rw [← HR.out]
    go_enter Try.func35, Try.ntmps35
    go_wp2_with fail
    go_ret
    exact ⟨rfl, rfl⟩

set_option maxHeartbeats 1000000 in
theorem form_any (n : BitVec 64) (w : World) :
    Calls Try.prog 36 #[.int .u64 (uv n)] w fun e w' => e = .returned (.int .u64 (uv (onesB n))) ∧ w = w' := by
  have h2m : ∀ x : BitVec 64, IntKind.u64.wrap (2 * uv x) = uv (2#64 * x) := fun x => uv_mul 2#64 x
  go_enter Try.func36, Try.ntmps36
  go_wp2
  go_loop [3] (fun m => ∃ (j : Nat) (M : BitVec 64), m = .int .u64 (uv M) ∧ FormAt n M j) (fun m => 18446744073709551616 - (intOf m).toNat)
  case atStart => exact ⟨0, 0#64, rfl, form_start n⟩
  case round =>
    obtain ⟨j, M, rfl, hf⟩ := hrel
    have HF := Lib.hid hf
    clear hf
    by_cases hlt : M.toNat < n.toNat
    · have g1 := uv_dec_lt hlt
      have HL := Lib.hid hlt
      have hM := M.isLt
      have HN := Lib.hid (show (2#64 * M + 1#64).toNat = 2 * M.toNat + 1 by
        have h1 := (form_step HF.out HL.out).1
        have h2 := HF.out.1
        have h3 := Nat.two_pow_pos j
        rw [Nat.pow_succ] at h1
        omega)
      go_wp2_with fail
      go_round
      case rel => exact ⟨j + 1, _, rfl, form_step HF.out HL.out⟩
      case measure => simp [intOf, uv_toNat]; have := HN.out; simp at this; omega
    · have g1 := uv_dec_nlt hlt
      have HL := Lib.hid hlt
      clear hlt
      go_wp2_with fail
      go_ret
      exact ⟨ret_int (by rw [form_end HF.out HL.out]), rfl⟩

set_option maxHeartbeats 1000000 in
theorem half_any (a b : BitVec 64) (w : World) :
    Calls Try.prog 38 #[.int .u64 (uv a), .int .u64 (uv b)] w fun e w' => e = .returned (.int .u64 (uv (a >>> b.toNat))) ∧ w = w' := by
  go_enter Try.func38, Try.ntmps38
  go_wp2
  go_loop [0, 5] (fun x i => ∃ k : Nat, k ≤ b.toNat ∧ i = .int .u64 k ∧ x = .int .u64 (uv (a >>> k))) (fun _ i => b.toNat - (intOf i).toNat)
  case atStart => exact ⟨0, Nat.zero_le _, rfl, by rw [BitVec.ushiftRight_zero]⟩
  case round =>
    obtain ⟨k, hk, rfl, rfl⟩ := hrel
    have hbl := b.isLt
    by_cases hlt : k < b.toNat
    · have g1 := nat_lt_uv hlt
      by_cases hz : a >>> k = 0#64
      · have g2 := uv_npos hz
        have HZ := Lib.hid hz
        clear hz
        go_wp2_with fail
        go_ret
        exact ⟨ret_int (by rw [HZ.out, AM.shr_stays HZ.out hk]), rfl⟩
      · have g2 := uv_pos hz
        clear hz
        go_wp2_with fail
        go_round
        case rel => exact ⟨k + 1, by omega, by go_num, by rw [AM.shr_step]⟩
        case measure => simp [intOf]; omega
    · have g1 := nat_nlt_uv hlt
      go_wp2_with fail
      go_ret
      have e : k = b.toNat := by omega
      exact ⟨ret_int (by rw [e]), rfl⟩

end Go.Proofs.Ytchlokhmcadgaaa
