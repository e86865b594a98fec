/-
  Plain laws on words of 64 bits for the layer arith: what the reference does bit by bit is +, -, *, /, %. Conditions: none.
-/
namespace Go.Proofs.Ytchlokhmcadgaaa.AM

theorem bit_toNat (a : BitVec 64) (k : Nat) : ((a >>> k) &&& 1#64).toNat = a.toNat / 2 ^ k % 2 := by
  rw [BitVec.toNat_and, BitVec.toNat_ushiftRight, Nat.shiftRight_eq_div_pow]
  exact Nat.and_one_is_mod _

/-- after k rounds: the low k bits of the sum, and the carry -/
def PlusAt (a b : BitVec 64) (k : Nat) (s c : BitVec 64) : Prop :=
  s.toNat = (a.toNat + b.toNat) % 2 ^ k ∧ c.toNat = (a.toNat % 2 ^ k + b.toNat % 2 ^ k) / 2 ^ k

theorem plus_start (a b : BitVec 64) : PlusAt a b 0 0#64 0#64 := by
  simp [PlusAt, Nat.mod_one]

theorem carry_le (A B P : Nat) (hP : 0 < P) : (A % P + B % P) / P ≤ 1 := by
  have h1 := Nat.mod_lt A hP
  have h2 := Nat.mod_lt B hP
  have : (A % P + B % P) / P < 2 := by
    rw [Nat.div_lt_iff_lt_mul hP]; omega
  omega

theorem sum_bit (A B P : Nat) (hP : 0 < P) : (A + B) / P = A / P + B / P + (A % P + B % P) / P := by
  have h1 := Nat.div_add_mod A P
  have h2 := Nat.div_add_mod B P
  have e : A + B = (A % P + B % P) + P * (A / P + B / P) := by rw [Nat.mul_add]; omega
  rw [e, Nat.add_mul_div_left _ _ hP]
  omega

theorem carry_next (A B k : Nat) : (A % 2 ^ (k + 1) + B % 2 ^ (k + 1)) / 2 ^ (k + 1) =
    (A / 2 ^ k % 2 + B / 2 ^ k % 2 + (A % 2 ^ k + B % 2 ^ k) / 2 ^ k) / 2 := by
  have hP : 0 < 2 ^ k := Nat.two_pow_pos k
  rw [Nat.mod_pow_succ (x := A), Nat.mod_pow_succ (x := B), Nat.pow_succ, ← Nat.div_div_eq_div_mul]
  have e : A % 2 ^ k + 2 ^ k * (A / 2 ^ k % 2) + (B % 2 ^ k + 2 ^ k * (B / 2 ^ k % 2)) = (A % 2 ^ k + B % 2 ^ k) + 2 ^ k * (A / 2 ^ k % 2 + B / 2 ^ k % 2) := by
    rw [Nat.mul_add]; omega
  rw [e, Nat.add_mul_div_left _ _ hP]
  congr 1
  omega

theorem plus_step {a b s c : BitVec 64} {k : Nat} (hk : k < 64) (h : PlusAt a b k s c) :
    PlusAt a b (k + 1) (s ||| ((((a >>> k) &&& 1#64) + ((b >>> k) &&& 1#64) + c) &&& 1#64) <<< k)
      ((((a >>> k) &&& 1#64) + ((b >>> k) &&& 1#64) + c) >>> 1) := by
  obtain ⟨hs, hc⟩ := h
  have hP : 0 < 2 ^ k := Nat.two_pow_pos k
  have hcl := carry_le a.toNat b.toNat (2 ^ k) hP
  have ha := bit_toNat a k
  have hb := bit_toNat b k
  have hx : (((a >>> k) &&& 1#64) + ((b >>> k) &&& 1#64) + c).toNat = a.toNat / 2 ^ k % 2 + b.toNat / 2 ^ k % 2 + (a.toNat % 2 ^ k + b.toNat % 2 ^ k) / 2 ^ k := by
    rw [BitVec.toNat_add, BitVec.toNat_add, ha, hb, hc]
    omega
  generalize (((a >>> k) &&& 1#64) + ((b >>> k) &&& 1#64) + c) = x at hx ⊢
  refine ⟨?_, ?_⟩
  · rw [BitVec.toNat_or, BitVec.toNat_shiftLeft, BitVec.toNat_and, Nat.shiftLeft_eq]
    have e1 : x.toNat &&& (1#64).toNat = x.toNat % 2 := Nat.and_one_is_mod _
    rw [e1]
    have hlt : x.toNat % 2 * 2 ^ k < 2 ^ 64 := by
      have h1 : x.toNat % 2 ≤ 1 := by omega
      have h2 : 2 ^ k ≤ 2 ^ 63 := Nat.pow_le_pow_right (by omega) (by omega)
      have h3 : x.toNat % 2 * 2 ^ k ≤ 1 * 2 ^ 63 := Nat.mul_le_mul h1 h2
      omega
    rw [Nat.mod_eq_of_lt hlt, hs]
    have hor := Nat.shiftLeft_add_eq_or_of_lt (b := (a.toNat + b.toNat) % 2 ^ k) (i := k) (Nat.mod_lt _ hP) (x.toNat % 2)
    rw [Nat.shiftLeft_eq] at hor
    rw [Nat.or_comm, ← hor, Nat.mod_pow_succ, sum_bit _ _ _ hP, Nat.mul_comm]
    have : x.toNat % 2 = (a.toNat / 2 ^ k + b.toNat / 2 ^ k + (a.toNat % 2 ^ k + b.toNat % 2 ^ k) / 2 ^ k) % 2 := by omega
    rw [this]
    omega
  · rw [BitVec.toNat_ushiftRight, Nat.shiftRight_eq_div_pow, hx, carry_next]

theorem plus_end {a b s c : BitVec 64} (h : PlusAt a b 64 s c) : s = a + b :=
  BitVec.eq_of_toNat_eq (by rw [h.1, BitVec.toNat_add])

theorem minus_eq (a b : BitVec 64) : a + (~~~b + 1#64) = a - b := by
  rw [BitVec.sub_eq_add_neg, BitVec.neg_eq_not_add]

/-- times: by doubling -/
def TimesAt (a b : BitVec 64) (k : Nat) (s d : BitVec 64) : Prop :=
  s = a * BitVec.ofNat 64 (b.toNat % 2 ^ k) ∧ d = a * BitVec.ofNat 64 (2 ^ k)

theorem times_start (a b : BitVec 64) : TimesAt a b 0 0#64 a := by
  simp [TimesAt, Nat.mod_one]

theorem times_step {a b s d : BitVec 64} {k : Nat} (h : TimesAt a b k s d) :
    TimesAt a b (k + 1) (if (b >>> k) &&& 1#64 = 1#64 then s + d else s) (d + d) := by
  obtain ⟨rfl, rfl⟩ := h
  have hb := bit_toNat b k
  refine ⟨?_, ?_⟩
  · rw [Nat.mod_pow_succ]
    by_cases h : (b >>> k) &&& 1#64 = 1#64
    · rw [if_pos h]
      rw [h] at hb
      have : b.toNat / 2 ^ k % 2 = 1 := by rw [← hb]; rfl
      rw [this, Nat.mul_one, BitVec.ofNat_add, BitVec.mul_add]
    · rw [if_neg h]
      have : b.toNat / 2 ^ k % 2 ≠ 1 := fun e => h (BitVec.eq_of_toNat_eq (by rw [hb, e]; rfl))
      have : b.toNat / 2 ^ k % 2 = 0 := by omega
      rw [this, Nat.mul_zero, Nat.add_zero]
  · rw [Nat.pow_succ, Nat.mul_two, BitVec.ofNat_add, BitVec.mul_add]

theorem times_end {a b s d : BitVec 64} (h : TimesAt a b 64 s d) : s = a * b := by
  rw [h.1, Nat.mod_eq_of_lt b.isLt, BitVec.ofNat_toNat, BitVec.setWidth_eq]

/-- split: from the top; before the round of bit k (k counted down: bits k .. 63 are done) -/
def SplitAt (a b : BitVec 64) (k : Nat) (q r : BitVec 64) : Prop :=
  q.toNat = (a.toNat / 2 ^ k) / b.toNat * 2 ^ k ∧ r.toNat = (a.toNat / 2 ^ k) % b.toNat

theorem split_start (a b : BitVec 64) : SplitAt a b 64 0#64 0#64 := by
  have h : a.toNat / 2 ^ 64 = 0 := Nat.div_eq_of_lt a.isLt
  simp only [SplitAt, h]
  simp

theorem split_end {a b q r : BitVec 64} (h : SplitAt a b 0 q r) : q = a / b ∧ r = a % b := by
  obtain ⟨h1, h2⟩ := h
  refine ⟨BitVec.eq_of_toNat_eq ?_, BitVec.eq_of_toNat_eq ?_⟩
  · rw [BitVec.toNat_udiv, h1]; simp
  · rw [BitVec.toNat_umod, h2]; simp

theorem top_bit (r : BitVec 64) : (r >>> 63).toNat = r.toNat / 2 ^ 63 := by
  rw [BitVec.toNat_ushiftRight, Nat.shiftRight_eq_div_pow]

/-- the rest doubled and the next bit, as the code has it (it may wrap) -/
theorem next_rest (a r : BitVec 64) (k : Nat) : ((r <<< 1) ||| ((a >>> k) &&& 1#64)).toNat = (r.toNat * 2 + a.toNat / 2 ^ k % 2) % 2 ^ 64 := by
  rw [BitVec.toNat_or, BitVec.toNat_shiftLeft, bit_toNat, Nat.shiftLeft_eq]
  have hor := Nat.shiftLeft_add_eq_or_of_lt (b := a.toNat / 2 ^ k % 2) (i := 1) (by omega) (r.toNat % 2 ^ 63)
  rw [Nat.shiftLeft_eq] at hor
  have e : r.toNat * 2 ^ 1 % 2 ^ 64 = r.toNat % 2 ^ 63 * 2 ^ 1 := by omega
  rw [e, ← hor]
  omega

theorem div_step (N b : Nat) (hb : 0 < b) (t : Nat) (ht : t < 2) :
    (2 * N + t) / b = 2 * (N / b) + (if b ≤ 2 * (N % b) + t then 1 else 0) ∧
    (2 * N + t) % b = (if b ≤ 2 * (N % b) + t then 2 * (N % b) + t - b else 2 * (N % b) + t) := by
  have h1 := Nat.div_add_mod N b
  have h2 := Nat.mod_lt N hb
  have e : 2 * N + t = (2 * (N % b) + t) + b * (2 * (N / b)) := by
    rw [Nat.mul_left_comm]; omega
  rw [e, Nat.add_mul_div_left _ _ hb, Nat.add_mul_mod_self_left]
  by_cases h : b ≤ 2 * (N % b) + t
  · rw [if_pos h, if_pos h]
    have e3 : 2 * (N % b) + t = (2 * (N % b) + t - b) + b * 1 := by omega
    have hlt : 2 * (N % b) + t - b < b := by omega
    refine ⟨?_, ?_⟩
    · rw [e3, Nat.add_mul_div_left _ _ hb, Nat.div_eq_of_lt hlt]; omega
    · rw [e3, Nat.add_mul_mod_self_left, Nat.mod_eq_of_lt hlt]; omega
  · rw [if_neg h, if_neg h]
    have hlt : 2 * (N % b) + t < b := by omega
    rw [Nat.div_eq_of_lt hlt, Nat.mod_eq_of_lt hlt]
    omega

/-- is the divisor taken off in this round? -/
def Takes (a b r : BitVec 64) (k : Nat) : Prop := b.toNat ≤ 2 * r.toNat + a.toNat / 2 ^ k % 2

theorem takes_iff (a b r : BitVec 64) (k : Nat) (hr : r.toNat < b.toNat) :
    Takes a b r k ↔ (r >>> 63 = 1#64 ∨ b.toNat ≤ ((r <<< 1) ||| ((a >>> k) &&& 1#64)).toNat) := by
  rw [next_rest]
  have h63 := top_bit r
  have hrl := r.isLt
  have hbl := b.isLt
  have ht : a.toNat / 2 ^ k % 2 < 2 := by omega
  unfold Takes
  generalize a.toNat / 2 ^ k % 2 = t at ht ⊢
  constructor
  · intro h
    by_cases hb : r.toNat < 2 ^ 63
    · right; omega
    · left
      exact BitVec.eq_of_toNat_eq (by rw [h63]; show _ = 1; omega)
  · rintro (h | h)
    · have : (r >>> 63).toNat = 1 := by rw [h]; rfl
      omega
    · omega

theorem split_inv_lt {a b q r : BitVec 64} {k : Nat} (hb : 0 < b.toNat) (h : SplitAt a b k q r) : r.toNat < b.toNat := by
  rw [h.2]; exact Nat.mod_lt _ hb

theorem half_div (A k : Nat) : A / 2 ^ k = 2 * (A / 2 ^ (k + 1)) + A / 2 ^ k % 2 := by
  rw [Nat.pow_succ, ← Nat.div_div_eq_div_mul]; omega

theorem split_step_no {a b q r : BitVec 64} {k : Nat} (hb : 0 < b.toNat) (h : SplitAt a b (k + 1) q r) (hn : ¬ Takes a b r k) :
    SplitAt a b k q ((r <<< 1) ||| ((a >>> k) &&& 1#64)) := by
  obtain ⟨h1, h2⟩ := h
  have hd := div_step (a.toNat / 2 ^ (k + 1)) b.toNat hb (a.toNat / 2 ^ k % 2) (by omega)
  rw [← half_div] at hd
  unfold Takes at hn
  rw [h2] at hn
  rw [if_neg hn, if_neg hn] at hd
  refine ⟨?_, ?_⟩
  · rw [h1, hd.1, Nat.pow_succ]; simp [Nat.mul_comm, Nat.mul_assoc, Nat.mul_left_comm]
  · rw [next_rest, hd.2, h2]
    have := b.isLt
    omega

theorem split_step_yes {a b q r : BitVec 64} {k : Nat} (hk : k < 64) (hb : 0 < b.toNat) (h : SplitAt a b (k + 1) q r) (hn : Takes a b r k) :
    SplitAt a b k (q ||| (1#64 <<< k)) (((r <<< 1) ||| ((a >>> k) &&& 1#64)) - b) := by
  have hrb := split_inv_lt hb h
  obtain ⟨h1, h2⟩ := h
  have hd := div_step (a.toNat / 2 ^ (k + 1)) b.toNat hb (a.toNat / 2 ^ k % 2) (by omega)
  rw [← half_div] at hd
  unfold Takes at hn
  rw [h2] at hn
  rw [if_pos hn, if_pos hn] at hd
  have hP : 0 < 2 ^ k := Nat.two_pow_pos k
  refine ⟨?_, ?_⟩
  · rw [BitVec.toNat_or, BitVec.toNat_shiftLeft, Nat.shiftLeft_eq]
    have hlt : (1#64).toNat * 2 ^ k < 2 ^ 64 := by
      have h2 : 2 ^ k ≤ 2 ^ 63 := Nat.pow_le_pow_right (by omega) (by omega)
      have : (1#64).toNat = 1 := rfl
      rw [this]
      omega
    rw [Nat.mod_eq_of_lt hlt, h1, hd.1]
    have hor := Nat.shiftLeft_add_eq_or_of_lt (b := 2 ^ k) (i := k + 1) (by rw [Nat.pow_succ]; omega) (a.toNat / 2 ^ (k + 1) / b.toNat)
    rw [Nat.shiftLeft_eq] at hor
    have e1 : (1#64).toNat * 2 ^ k = 2 ^ k := Nat.one_mul _
    rw [e1, ← hor, Nat.pow_succ, Nat.add_mul, Nat.one_mul]
    congr 1
    simp [Nat.mul_comm, Nat.mul_assoc, Nat.mul_left_comm]
  · rw [BitVec.toNat_sub, next_rest, hd.2, ← h2]
    rw [← h2] at hn
    have hrl := r.isLt
    have hbl := b.isLt
    have ht : a.toNat / 2 ^ k % 2 < 2 := by omega
    generalize a.toNat / 2 ^ k % 2 = t at ht hn ⊢
    omega

/-- what an operation makes of two numbers, and is there such an operation? -/
def doV (op : Int) (a b : BitVec 64) : BitVec 64 :=
  if op = 1 then a + b else if op = 2 then a - b else if op = 3 then a * b else if op = 4 then a / b else if op = 5 then a % b
  else if op = 6 then a &&& b else if op = 7 then a ||| b else if op = 8 then a ^^^ b else if op = 9 then a <<< b.toNat else if op = 10 then a >>> b.toNat else 0#64
def doOk (op : Int) : Bool := decide (1 ≤ op ∧ op ≤ 10)

theorem op_cases (op : Int) : op = 1 ∨ op = 2 ∨ op = 3 ∨ op = 4 ∨ op = 5 ∨ op = 6 ∨ op = 7 ∨ op = 8 ∨ op = 9 ∨ op = 10 ∨ (op < 1 ∨ 10 < op) := by omega
theorem doV_out {op : Int} (h : op < 1 ∨ 10 < op) (a b : BitVec 64) : doV op a b = 0#64 := by
  unfold doV
  repeat (rw [if_neg (by omega)])
theorem doOk_out {op : Int} (h : op < 1 ∨ 10 < op) : doOk op = false := by unfold doOk; simp; omega

/-- does a condition hold, and is there such a condition? -/
def hdV (op : Int) (a b : BitVec 64) : Bool :=
  if op = 16 then decide (a = b) else if op = 17 then !decide (a = b) else if op = 18 then decide (a.toNat < b.toNat) else if op = 19 then !decide (a.toNat < b.toNat) else false
def hdOk (op : Int) : Bool := decide (16 ≤ op ∧ op ≤ 19)
theorem hop_cases (op : Int) : op = 16 ∨ op = 17 ∨ op = 18 ∨ op = 19 ∨ (op < 16 ∨ 19 < op) := by omega
theorem hdV_out {op : Int} (h : op < 16 ∨ 19 < op) (a b : BitVec 64) : hdV op a b = false := by
  unfold hdV
  repeat (rw [if_neg (by omega)])
theorem hdOk_out {op : Int} (h : op < 16 ∨ 19 < op) : hdOk op = false := by unfold hdOk; simp; omega

/-- the reference's shifts, round by round -/
theorem shl_step (a : BitVec 64) (k : Nat) : a <<< k + a <<< k = a <<< (k + 1) := by
  have h : (a <<< k) <<< 1 = a <<< (k + 1) := by rw [BitVec.shiftLeft_add]
  rw [← h]
  apply BitVec.eq_of_toNat_eq
  rw [BitVec.toNat_add, BitVec.toNat_shiftLeft (n := 1), Nat.shiftLeft_eq]
  omega
theorem ushr_add (a : BitVec 64) (k d : Nat) : a >>> (k + d) = (a >>> k) >>> d := by
  apply BitVec.eq_of_toNat_eq
  simp only [BitVec.toNat_ushiftRight, Nat.shiftRight_add]
theorem shr_step (a : BitVec 64) (k : Nat) : a >>> k >>> 1 = a >>> (k + 1) := by
  rw [ushr_add]
theorem shl_stays {a : BitVec 64} {k m : Nat} (h : a <<< k = 0#64) (hk : k ≤ m) : a <<< m = 0#64 := by
  obtain ⟨d, rfl⟩ := Nat.le.dest hk
  rw [BitVec.shiftLeft_add, h, BitVec.zero_shiftLeft]
theorem shr_stays {a : BitVec 64} {k m : Nat} (h : a >>> k = 0#64) (hk : k ≤ m) : a >>> m = 0#64 := by
  obtain ⟨d, rfl⟩ := Nat.le.dest hk
  rw [ushr_add, h, BitVec.zero_ushiftRight]

/-- a fold from the left -/
def foldV (op : Int) : List (BitVec 64) → BitVec 64
  | [] => 0#64
  | u :: r => if doOk op then r.foldl (doV op) u else 0#64
def foldOk (op : Int) (us : List (BitVec 64)) : Bool := doOk op && !us.isEmpty

theorem or_not (a b : BitVec 64) : ~~~(~~~a ||| ~~~b) = a &&& b := by
  ext i hi; simp
theorem and_not (a b : BitVec 64) : ~~~(~~~a &&& ~~~b) = a ||| b := by
  ext i hi; simp
theorem xor_not (a b : BitVec 64) : (a &&& ~~~b) ||| (b &&& ~~~a) = a ^^^ b := by
  ext i hi; simp; cases a[i] <;> cases b[i] <;> rfl

theorem law1 (a b : BitVec 64) : a / b * b + a % b = a := by
  apply BitVec.eq_of_toNat_eq
  rw [BitVec.toNat_add, BitVec.toNat_mul, BitVec.toNat_udiv, BitVec.toNat_umod]
  have h := Nat.div_add_mod a.toNat b.toNat
  have := a.isLt
  rw [Nat.mul_comm (a.toNat / b.toNat)]
  omega
theorem law2 (a b : BitVec 64) (h : b ≠ 0#64) : ¬ b.toNat ≤ (a % b).toNat := by
  rw [BitVec.toNat_umod]
  have hb : 0 < b.toNat := by
    have : b.toNat ≠ 0 := fun e => h (BitVec.eq_of_toNat_eq (by simpa using e))
    omega
  have := Nat.mod_lt a.toNat hb
  omega
theorem law_or (a b : BitVec 64) : b + (a &&& ~~~b) = a ||| b := by
  rw [BitVec.add_eq_or_of_and_eq_zero]
  · ext i hi; simp; cases a[i] <;> cases b[i] <;> rfl
  · ext i hi; simp; intro h _; exact h
theorem law_self (a b : BitVec 64) : (a &&& b) + (a &&& ~~~b) = a := by
  rw [BitVec.add_eq_or_of_and_eq_zero]
  · ext i hi; simp; cases a[i] <;> cases b[i] <;> rfl
  · ext i hi; simp; cases a[i] <;> cases b[i] <;> simp
theorem law5 (a b : BitVec 64) : (a &&& b) + (a ||| b) = a + b := by
  rw [← law_or]
  have h := law_self a b
  calc (a &&& b) + (b + (a &&& ~~~b)) = ((a &&& b) + (a &&& ~~~b)) + b := by ac_rfl
    _ = a + b := by rw [h]
theorem law6 (a b : BitVec 64) : (a ^^^ b) ^^^ b = a := by rw [BitVec.xor_assoc, BitVec.xor_self, BitVec.xor_zero]
theorem law7 (a b : BitVec 64) : (a ||| b) - (a &&& b) = a ^^^ b := by
  have h : (a ^^^ b) + (a &&& b) = a ||| b := by
    rw [BitVec.add_eq_or_of_and_eq_zero]
    · ext i hi; simp; cases a[i] <;> cases b[i] <;> rfl
    · ext i hi; simp; cases a[i] <;> cases b[i] <;> simp
  rw [← h, BitVec.add_sub_cancel]
theorem one_shl (s : Nat) (h : s < 64) : (1#64 <<< s).toNat = 2 ^ s := by
  rw [BitVec.toNat_shiftLeft, Nat.shiftLeft_eq]
  have h2 : 2 ^ s ≤ 2 ^ 63 := Nat.pow_le_pow_right (by omega) (by omega)
  have : (1#64).toNat = 1 := rfl
  rw [this]
  omega
theorem law8 (a : BitVec 64) (s : Nat) (h : s < 64) : a <<< s = a * (1#64 <<< s) := by
  apply BitVec.eq_of_toNat_eq
  rw [BitVec.toNat_mul, one_shl s h, BitVec.toNat_shiftLeft, Nat.shiftLeft_eq]
theorem law9 (a : BitVec 64) (s : Nat) (h : s < 64) : a >>> s = a / (1#64 <<< s) := by
  apply BitVec.eq_of_toNat_eq
  rw [BitVec.toNat_udiv, one_shl s h, BitVec.toNat_ushiftRight, Nat.shiftRight_eq_div_pow]
theorem mod64_lt (c : BitVec 64) : (c % 64#64).toNat < 64 := by
  rw [BitVec.toNat_umod]; exact Nat.mod_lt _ (by decide)
theorem far_le (c : BitVec 64) : 64 ≤ (64#64 + c >>> 1).toNat := by
  rw [BitVec.toNat_add, BitVec.toNat_ushiftRight, Nat.shiftRight_eq_div_pow]
  have := c.isLt
  have : (64#64).toNat = 64 := rfl
  omega
theorem law10 (a c : BitVec 64) : a <<< (64#64 + c >>> 1).toNat = 0#64 := BitVec.shiftLeft_eq_zero (far_le c)
theorem law11 (a c : BitVec 64) : a >>> (64#64 + c >>> 1).toNat = 0#64 := BitVec.ushiftRight_eq_zero (far_le c)

theorem foldV_append (op : Int) (xs ys : List (BitVec 64)) (hx : 0 < xs.length) (hok : doOk op = true) : foldV op (foldV op xs :: ys) = foldV op (xs ++ ys) := by
  match xs, hx with
  | u :: r, _ => simp [foldV, hok, List.foldl_append]

def isFree (op : Int) : Prop := op = 1 ∨ op = 3 ∨ op = 6 ∨ op = 7 ∨ op = 8
theorem free_swap {op : Int} (h : isFree op) (a b c : BitVec 64) : doV op (doV op a b) c = doV op (doV op a c) b := by
  rcases h with rfl | rfl | rfl | rfl | rfl
  · show a + b + c = a + c + b; ac_rfl
  · show a * b * c = a * c * b; ac_rfl
  · show a &&& b &&& c = a &&& c &&& b; ac_rfl
  · show a ||| b ||| c = a ||| c ||| b; ac_rfl
  · show a ^^^ b ^^^ c = a ^^^ c ^^^ b; ac_rfl
theorem free_unit {op : Int} (h : isFree op) : ∃ e, ∀ a, doV op e a = a := by
  rcases h with rfl | rfl | rfl | rfl | rfl
  · exact ⟨0#64, fun a => BitVec.zero_add a⟩
  · exact ⟨1#64, fun a => BitVec.one_mul a⟩
  · exact ⟨BitVec.allOnes 64, fun a => BitVec.allOnes_and⟩
  · exact ⟨0#64, fun a => BitVec.zero_or⟩
  · exact ⟨0#64, fun a => BitVec.zero_xor⟩
theorem free_ok {op : Int} (h : isFree op) : doOk op = true := by
  rcases h with rfl | rfl | rfl | rfl | rfl <;> rfl

theorem foldl_in (f : BitVec 64 → BitVec 64 → BitVec 64) (hf : ∀ a b c, f (f a b) c = f (f a c) b) : ∀ (l : List (BitVec 64)) (a b : BitVec 64), l.foldl f (f b a) = f (l.foldl f b) a
  | [], _, _ => rfl
  | c :: l, a, b => by
    simp only [List.foldl_cons]
    rw [hf b a c, foldl_in f hf l a (f b c)]
theorem foldl_rev (f : BitVec 64 → BitVec 64 → BitVec 64) (hf : ∀ a b c, f (f a b) c = f (f a c) b) (e : BitVec 64) : ∀ l : List (BitVec 64), l.reverse.foldl f e = l.foldl f e
  | [] => rfl
  | c :: l => by
    rw [List.reverse_cons, List.foldl_append, List.foldl_cons, List.foldl_nil, foldl_rev f hf e l, List.foldl_cons, foldl_in f hf]
theorem foldV_unit {op : Int} (hok : doOk op = true) {e : BitVec 64} (he : ∀ a, doV op e a = a) (us : List (BitVec 64)) (h : 0 < us.length) : foldV op us = us.foldl (doV op) e := by
  match us, h with
  | u :: r, _ => simp [foldV, hok, he]
theorem foldV_reverse {op : Int} (h : isFree op) (us : List (BitVec 64)) (hu : 0 < us.length) : foldV op us.reverse = foldV op us := by
  obtain ⟨e, he⟩ := free_unit h
  rw [foldV_unit (free_ok h) he _ (by simpa using hu), foldV_unit (free_ok h) he _ hu, foldl_rev _ (free_swap h)]

end Go.Proofs.Ytchlokhmcadgaaa.AM
