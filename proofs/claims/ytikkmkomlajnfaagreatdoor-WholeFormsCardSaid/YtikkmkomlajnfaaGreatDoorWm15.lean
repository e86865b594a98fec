/-
  Layer 6: what Do of two spans answers.
  Layer 6: what operations make of numbers of two spans is in the span of Do. Conditions: none.
-/
import Derived.Test.YtikkmkomlajnfaaGreatDoorWm14
set_option linter.unusedVariables false
set_option linter.unusedSimpArgs false
section
namespace Go.Proofs.YtikkmkomlajnfaaGreatDoor.Sp
open Go.RowKit

/-- what an operation makes of two spans that are not both single -/
def dosV (op : Int) (al ah bl' bh : BitVec 64) : BP :=
 if op = 1 then sumV al ah bl' bh else if op = 2 then subV al ah bl' bh else if op = 3 then mulV al ah bl' bh else if op = 4 then divV al ah bl' bh else if op = 5 then remV al ah bl' bh
 else if op = 6 then andV al ah bl' bh else if op = 7 then orV al ah bl' bh else if op = 8 then xorV al ah bl' bh else if op = 9 then shlV al ah bl' bh else shrV al ah bl' bh
/-- is there an answer? -/
def dosOk (op : Int) (al ah bl' bh : BitVec 64) : Bool := AM.doOk op && decide (al.toNat ≤ ah.toNat) && decide (bl'.toNat ≤ bh.toNat)
def dosR (op : Int) (al ah bl' bh : BitVec 64) : BP :=
 if dosOk op al ah bl' bh = true then (if al = ah ∧ bl' = bh then (AM.doV op al bl', AM.doV op al bl') else dosV op al ah bl' bh) else (0#64, 0#64)


end Go.Proofs.YtikkmkomlajnfaaGreatDoor.Sp
end

section
namespace Go.Proofs.YtikkmkomlajnfaaGreatDoor.Sp
open Go.RowKit

/-- n is in the span -/
def In (v : BP) (n : BitVec 64) : Prop := v.1.toNat ≤ n.toNat ∧ n.toNat ≤ v.2.toNat

theorem in_full (n : BitVec 64) : In (0#64, mostB) n := ⟨Nat.zero_le _, by have := n.isLt; show n.toNat ≤ 18446744073709551615; omega⟩
theorem minB_toNat (x y : BitVec 64) : (minB x y).toNat = min x.toNat y.toNat := by
 unfold minB; split <;> omega
theorem maxB_toNat (x y : BitVec 64) : (maxB x y).toNat = max x.toNat y.toNat := by
 unfold maxB; split <;> omega
theorem sub_toNat {x y : BitVec 64} (h : y.toNat ≤ x.toNat) : (x - y).toNat = x.toNat - y.toNat := by
 have h1 := x.isLt
 have h2 := y.isLt
 rw [BitVec.toNat_sub]; omega
theorem nz_toNat {x : BitVec 64} (h : x ≠ 0#64) : 0 < x.toNat := by
 have : x.toNat ≠ 0 := fun e => h (BitVec.eq_of_toNat_eq (by simpa using e))
 omega

section
variable {al ah bl' bh x y : BitVec 64} (h1 : al.toNat ≤ x.toNat) (h2 : x.toNat ≤ ah.toNat) (h3 : bl'.toNat ≤ y.toNat) (h4 : y.toNat ≤ bh.toNat)
include h1 h2 h3 h4

theorem in_sum : In (sumV al ah bl' bh) (x + y) := by
 unfold sumV
 split
 · exact in_full _
 refine ⟨?_, ?_⟩ <;> simp only [BitVec.toNat_add] <;> omega
theorem in_sub : In (subV al ah bl' bh) (x - y) := by
 unfold subV
 split
 · exact in_full _
 refine ⟨?_, ?_⟩ <;> dsimp only <;> rw [sub_toNat (by omega), sub_toNat (by omega)] <;> omega
theorem in_mul : In (mulV al ah bl' bh) (x * y) := by
 unfold mulV
 split
 · exact in_full _
 have m1 := Nat.mul_le_mul h1 h3
 have m2 := Nat.mul_le_mul h2 h4
 refine ⟨?_, ?_⟩ <;> simp only [BitVec.toNat_mul] <;> rw [Nat.mod_eq_of_lt (by omega), Nat.mod_eq_of_lt (by omega)] <;> omega
theorem in_div : In (divV al ah bl' bh) (x / y) := by
 unfold divV
 have m := Nat.div_le_self x.toNat y.toNat
 split
 · refine ⟨Nat.zero_le _, ?_⟩
   simp only [BitVec.toNat_udiv]; omega
 rename_i h
 have h0 := nz_toNat h
 refine ⟨?_, ?_⟩ <;> simp only [BitVec.toNat_udiv]
 · exact Nat.div_le_div h1 h4 (by omega)
 exact Nat.div_le_div h2 h3 (by omega)
theorem in_rem : In (remV al ah bl' bh) (x % y) := by
 unfold remV
 have m := Nat.mod_le x.toNat y.toNat
 split
 · refine ⟨Nat.zero_le _, ?_⟩
   simp only [BitVec.toNat_umod]; omega
 rename_i h
 have h0 := nz_toNat h
 split
 · rename_i h5
   refine ⟨?_, ?_⟩ <;> simp only [BitVec.toNat_umod] <;> rw [Nat.mod_eq_of_lt (by omega)] <;> omega
 refine ⟨Nat.zero_le _, ?_⟩
 have m2 := Nat.mod_lt x.toNat (y := y.toNat) (by omega)
 dsimp only
 have e1 : (1#64).toNat = 1 := rfl
 rw [minB_toNat, sub_toNat (by omega), BitVec.toNat_umod, e1]
 omega
omit h1 h3 in
theorem in_and : In (andV al ah bl' bh) (x &&& y) := by
 refine ⟨Nat.zero_le _, ?_⟩
 have m1 : (x &&& y).toNat ≤ x.toNat := by rw [BitVec.toNat_and]; exact Nat.and_le_left
 have m2 : (x &&& y).toNat ≤ y.toNat := by rw [BitVec.toNat_and]; exact Nat.and_le_right
 show _ ≤ (minB ah bh).toNat
 rw [minB_toNat]; omega
omit h1 h3 in
theorem both_lt : x.toNat < 2 ^ bl (maxB ah bh) ∧ y.toNat < 2 ^ bl (maxB ah bh) := by
 have m := bl_lt (maxB ah bh)
 have e := maxB_toNat ah bh
 omega
theorem in_or : In (orV al ah bl' bh) (x ||| y) := by
 obtain ⟨m1, m2⟩ := both_lt h2 h4
 refine ⟨?_, ?_⟩
 · show (maxB al bl').toNat ≤ _
   have m1 : x.toNat ≤ (x ||| y).toNat := by rw [BitVec.toNat_or]; exact Nat.left_le_or
   have m2 : y.toNat ≤ (x ||| y).toNat := by rw [BitVec.toNat_or]; exact Nat.right_le_or
   rw [maxB_toNat]; omega
 show _ ≤ (onesB (ah ||| bh)).toNat
 have m := Nat.or_lt_two_pow m1 m2
 rw [onesB_max, onesB_toNat, BitVec.toNat_or]; omega
omit h1 h3 in
theorem in_xor : In (xorV al ah bl' bh) (x ^^^ y) := by
 obtain ⟨m1, m2⟩ := both_lt h2 h4
 refine ⟨Nat.zero_le _, ?_⟩
 show _ ≤ (onesB (ah ||| bh)).toNat
 have m := Nat.xor_lt_two_pow m1 m2
 rw [onesB_max, onesB_toNat, BitVec.toNat_xor]; omega
theorem in_shl : In (shlV al ah bl' bh) (x <<< y.toNat) := by
 unfold shlV
 split
 · exact in_full _
 rename_i e
 have e : bl' = bh := Decidable.not_not.1 e
 have ey : y.toNat = bl'.toNat := by rw [e] at h3 ⊢; omega
 split
 · exact in_full _
 rename_i h
 rw [ey]
 by_cases h0 : ah = 0#64
 · have e1 : x = 0#64 := BitVec.eq_of_toNat_eq (by rw [h0] at h2; simpa using h2)
   have e2 : al = 0#64 := BitVec.eq_of_toNat_eq (by rw [e1] at h1; simpa using h1)
   rw [h0, e1, e2]
   exact ⟨Nat.le_refl _, Nat.le_refl _⟩
 have h5 : bl ah + bl'.toNat ≤ 64 := Nat.le_of_not_lt fun h6 => h ⟨h0, h6⟩
 have f := shl_fits (a := ah) bl'.toNat h5
 have m1 := Nat.mul_le_mul_right (2 ^ bl'.toNat) h1
 have m2 := Nat.mul_le_mul_right (2 ^ bl'.toNat) h2
 refine ⟨?_, ?_⟩ <;> simp only [BitVec.toNat_shiftLeft, Nat.shiftLeft_eq] <;> rw [Nat.mod_eq_of_lt (by omega), Nat.mod_eq_of_lt (by omega)] <;> omega
theorem in_shr : In (shrV al ah bl' bh) (x >>> y.toNat) := by
 refine ⟨?_, ?_⟩ <;> simp only [shrV, BitVec.toNat_ushiftRight, Nat.shiftRight_eq_div_pow]
 · exact Nat.div_le_div h1 (Nat.pow_le_pow_right (by omega) h4) (Nat.pos_iff_ne_zero.1 (Nat.two_pow_pos _))
 exact Nat.div_le_div h2 (Nat.pow_le_pow_right (by omega) h3) (Nat.pos_iff_ne_zero.1 (Nat.two_pow_pos _))

theorem dos_sound {op : Int} (ho : AM.doOk op = true) : dosOk op al ah bl' bh = true ∧ In (dosR op al ah bl' bh) (AM.doV op x y) := by
 have hk : dosOk op al ah bl' bh = true := by
  unfold dosOk
  rw [ho, decide_eq_true (show al.toNat ≤ ah.toNat by omega), decide_eq_true (show bl'.toNat ≤ bh.toNat by omega)]; rfl
 refine ⟨hk, ?_⟩
 unfold dosR
 rw [if_pos hk]
 split
 · rename_i h
   have e1 : x = al := BitVec.eq_of_toNat_eq (by rw [← h.1] at h2; omega)
   have e2 : y = bl' := BitVec.eq_of_toNat_eq (by rw [← h.2] at h4; omega)
   rw [e1, e2]
   exact ⟨Nat.le_refl _, Nat.le_refl _⟩
 rcases AM.op_cases op with rfl | rfl | rfl | rfl | rfl | rfl | rfl | rfl | rfl | rfl | h
 · exact in_sum h1 h2 h3 h4
 · exact in_sub h1 h2 h3 h4
 · exact in_mul h1 h2 h3 h4
 · exact in_div h1 h2 h3 h4
 · exact in_rem h1 h2 h3 h4
 · exact in_and (al := al) (bl' := bl') h2 h4
 · exact in_or h1 h2 h3 h4
 · exact in_xor (al := al) (bl' := bl') h2 h4
 · exact in_shl h1 h2 h3 h4
 · exact in_shr h1 h2 h3 h4
 rw [AM.doOk_out h] at ho
 exact Bool.noConfusion ho
end

/-- what is known when a condition holds, or doesn't -/
def meetV (al ah bl' bh : BitVec 64) : BP × Bool :=
 if (maxB al bl').toNat ≤ (minB ah bh).toNat then ((maxB al bl', minB ah bh), true) else ((0#64, 0#64), false)
def refV (op : Int) (al ah n : BitVec 64) (h : Bool) : BP × Bool :=
 if (op = 18 ∧ h = true) ∨ (op = 19 ∧ h = false) then (if n = 0#64 then ((0#64, 0#64), false) else meetV al ah 0#64 (n - 1#64))
 else if op = 18 ∨ op = 19 then meetV al ah n mostB
 else if (op = 16 ∧ h = true) ∨ (op = 17 ∧ h = false) then meetV al ah n n
 else if al = n ∧ ah = n then ((0#64, 0#64), false)
 else if al = n then ((al + 1#64, ah), true)
 else if ah = n then ((al, ah - 1#64), true)
 else ((al, ah), true)
def refR (op : Int) (al ah bl' bh : BitVec 64) (h : Bool) : BP × Bool :=
 if AM.hdOk op = true ∧ al.toNat ≤ ah.toNat ∧ bl'.toNat ≤ bh.toNat then (if bl' = bh then refV op al ah bl' h else ((al, ah), true)) else ((0#64, 0#64), false)

/-- a span in a span, with a number in it -/
def Sound (al ah x : BitVec 64) (r : BP × Bool) : Prop := r.2 = true ∧ In r.1 x ∧ al.toNat ≤ r.1.1.toNat ∧ r.1.2.toNat ≤ ah.toNat

theorem meet_sound {al ah bl' bh x : BitVec 64} (h1 : al.toNat ≤ x.toNat) (h2 : x.toNat ≤ ah.toNat) (h3 : bl'.toNat ≤ x.toNat) (h4 : x.toNat ≤ bh.toNat) : Sound al ah x (meetV al ah bl' bh) := by
 unfold meetV
 have e1 := maxB_toNat al bl'
 have e2 := minB_toNat ah bh
 rw [if_pos (by omega)]
 refine ⟨rfl, ⟨?_, ?_⟩, ?_, ?_⟩ <;> dsimp only <;> omega

theorem ref_sound {op : Int} {al ah bl' bh x y : BitVec 64} (h1 : al.toNat ≤ x.toNat) (h2 : x.toNat ≤ ah.toNat) (h3 : bl'.toNat ≤ y.toNat) (h4 : y.toNat ≤ bh.toNat) (ho : AM.hdOk op = true) :
 Sound al ah x (refR op al ah bl' bh (AM.hdV op x y)) := by
 unfold refR
 rw [if_pos ⟨ho, by omega, by omega⟩]
 split
 · rename_i e
   have ey : y = bl' := BitVec.eq_of_toNat_eq (by rw [← e] at h4; omega)
   rw [ey]
   clear ey e h3 h4
   have hl : (1#64).toNat = 1 := rfl
   have hm : mostB.toNat = 18446744073709551615 := rfl
   have hx := x.isLt
   rcases AM.hop_cases op with rfl | rfl | rfl | rfl | h
   · show Sound al ah x (refV 16 al ah bl' (decide (x = bl')))
     by_cases e : x = bl'
     · rw [decide_eq_true e]
       show Sound al ah x (meetV al ah bl' bl')
       rw [← e]
       exact meet_sound h1 h2 (Nat.le_refl _) (Nat.le_refl _)
     rw [decide_eq_false e]
     have ne : x.toNat ≠ bl'.toNat := fun h => e (BitVec.eq_of_toNat_eq h)
     show Sound al ah x (if al = bl' ∧ ah = bl' then ((0#64, 0#64), false) else if al = bl' then ((al + 1#64, ah), true) else if ah = bl' then ((al, ah - 1#64), true) else ((al, ah), true))
     rw [if_neg (fun h => ne (by rw [h.1] at h1; rw [h.2] at h2; omega))]
     split
     · rename_i e2
       rw [e2] at h1 ⊢
       have e3 : (bl' + 1#64).toNat = bl'.toNat + 1 := by rw [BitVec.toNat_add, hl]; omega
       refine ⟨rfl, ⟨?_, ?_⟩, ?_, ?_⟩ <;> dsimp only <;> omega
     split
     · rename_i e2
       rw [e2] at h2 ⊢
       have e3 : (bl' - 1#64).toNat = bl'.toNat - 1 := sub_toNat (by omega)
       refine ⟨rfl, ⟨?_, ?_⟩, ?_, ?_⟩ <;> dsimp only <;> omega
     exact ⟨rfl, ⟨h1, h2⟩, Nat.le_refl _, Nat.le_refl _⟩
   · show Sound al ah x (refV 17 al ah bl' (!decide (x = bl')))
     by_cases e : x = bl'
     · rw [decide_eq_true e]
       show Sound al ah x (meetV al ah bl' bl')
       rw [← e]
       exact meet_sound h1 h2 (Nat.le_refl _) (Nat.le_refl _)
     rw [decide_eq_false e]
     have ne : x.toNat ≠ bl'.toNat := fun h => e (BitVec.eq_of_toNat_eq h)
     show Sound al ah x (if al = bl' ∧ ah = bl' then ((0#64, 0#64), false) else if al = bl' then ((al + 1#64, ah), true) else if ah = bl' then ((al, ah - 1#64), true) else ((al, ah), true))
     rw [if_neg (fun h => ne (by rw [h.1] at h1; rw [h.2] at h2; omega))]
     split
     · rename_i e2
       rw [e2] at h1 ⊢
       have e3 : (bl' + 1#64).toNat = bl'.toNat + 1 := by rw [BitVec.toNat_add, hl]; omega
       refine ⟨rfl, ⟨?_, ?_⟩, ?_, ?_⟩ <;> dsimp only <;> omega
     split
     · rename_i e2
       rw [e2] at h2 ⊢
       have e3 : (bl' - 1#64).toNat = bl'.toNat - 1 := sub_toNat (by omega)
       refine ⟨rfl, ⟨?_, ?_⟩, ?_, ?_⟩ <;> dsimp only <;> omega
     exact ⟨rfl, ⟨h1, h2⟩, Nat.le_refl _, Nat.le_refl _⟩
   · show Sound al ah x (refV 18 al ah bl' (decide (x.toNat < bl'.toNat)))
     by_cases e : x.toNat < bl'.toNat
     · rw [decide_eq_true e]
       show Sound al ah x (if bl' = 0#64 then ((0#64, 0#64), false) else meetV al ah 0#64 (bl' - 1#64))
       rw [if_neg (fun h => by rw [h] at e; exact Nat.not_lt_zero _ e)]
       have e3 : (bl' - 1#64).toNat = bl'.toNat - 1 := sub_toNat (by omega)
       exact meet_sound h1 h2 (Nat.zero_le _) (by omega)
     rw [decide_eq_false e]
     show Sound al ah x (meetV al ah bl' mostB)
     exact meet_sound h1 h2 (by omega) (by omega)
   · show Sound al ah x (refV 19 al ah bl' (!decide (x.toNat < bl'.toNat)))
     by_cases e : x.toNat < bl'.toNat
     · rw [decide_eq_true e]
       show Sound al ah x (if bl' = 0#64 then ((0#64, 0#64), false) else meetV al ah 0#64 (bl' - 1#64))
       rw [if_neg (fun h => by rw [h] at e; exact Nat.not_lt_zero _ e)]
       have e3 : (bl' - 1#64).toNat = bl'.toNat - 1 := sub_toNat (by omega)
       exact meet_sound h1 h2 (Nat.zero_le _) (by omega)
     rw [decide_eq_false e]
     show Sound al ah x (meetV al ah bl' mostB)
     exact meet_sound h1 h2 (by omega) (by omega)
   rw [AM.hdOk_out h] at ho
   exact Bool.noConfusion ho
 exact ⟨rfl, ⟨h1, h2⟩, Nat.le_refl _, Nat.le_refl _⟩

end Go.Proofs.YtikkmkomlajnfaaGreatDoor.Sp
end
