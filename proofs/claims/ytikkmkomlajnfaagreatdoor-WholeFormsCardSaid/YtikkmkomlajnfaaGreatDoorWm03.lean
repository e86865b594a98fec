/-
  Layer 2: what is so of an instruction that is right; Goes, Writes, Source. Conditions: those of each theorem.
  Layer 7: instructions in rows; Right of one; flow.in, flow.loops. Conditions: those of each theorem.
  Layer 7: flow.places. Conditions: those of each theorem.
-/
import Derived.Test.YtikkmkomlajnfaaGreatDoorWm01
import Derived.Test.YtikkmkomlajnfaaGreatDoorWm02
set_option linter.unusedVariables false
set_option linter.unusedSimpArgs false
section
namespace Go.Proofs.YtikkmkomlajnfaaGreatDoor.Op
set_option maxRecDepth 100000
set_option maxHeartbeats 4000000
open Go.RowKit

/-- what is so of every instruction that is right -/
structure RightI (i : InstV) : Prop where
 o0 : 0 ≤ i.op
 o1 : i.op < 23
 a0 : 0 ≤ i.a
 a1 : i.a < 8
 d0 : 0 ≤ i.d
 d1 : i.d ≤ 63
 b : i.b = 8 ∨ (0 ≤ i.b ∧ i.b < 8)
 d8 : (i.op ≤ 11 ∨ i.op = 13 ∨ i.op = 14) → i.d < 8
 l : i.op = 20 → 1 ≤ i.d ∧ 1 ≤ i.m ∧ i.m ≤ 255
 c : i.op = 21 → 0 ≤ i.m ∧ i.m ≤ 6
 p : i.op = 14 → 0 ≤ i.m ∧ i.m ≤ 3
 f : i.op = 13 → i.m = 0 ∨ i.m = 1

theorem right_is {i : InstV} (h : rightV i = true) : RightI i := by
 obtain ⟨op, d, a, b, m⟩ := i
 unfold rightV at h
 simp only [Bool.and_eq_true, decide_eq_true_eq] at h
 obtain ⟨h1, h2⟩ := h
 rcases o_cases op with ⟨y, rfl, hy⟩ | h0 | ⟨_, h0⟩
 · rw [oI_nat hy] at h2
   rcases y_cases hy with rfl | rfl | rfl | rfl | rfl | rfl | rfl | rfl | rfl | rfl | rfl | rfl | rfl | rfl | rfl | rfl | rfl | rfl | rfl | rfl | rfl | rfl | rfl
   all_goals
    simp only [rsk, bys, fdO, ByteArray.size, List.size_toArray, List.length_cons, List.length_nil, List.map_cons, List.map_nil, List.take_succ_cons, List.take_zero, List.foldl_cons, List.foldl_nil, rs0, rst] at h2
    simp [RSt.good, regB, wiB] at h2
    constructor <;> dsimp only <;> first | omega | (intro _; omega) | (split at h2 <;> simp at h2 <;> omega)
 · rw [oI_out (.inl h0)] at h1; omega
 rw [oI_out (.inr h0)] at h1; omega

theorem uses_tab (c : Nat) (p : Nat → Bool) (h : ∀ y, y < 23 → usesB (fdO y) c = p y) {op : Int} (h0 : 0 ≤ op) (h1 : op < 23) : usesB (fdO (oI op)) c = p op.toNat := by
 obtain ⟨y, rfl⟩ : ∃ y : Nat, op = y := ⟨op.toNat, by omega⟩
 rw [oI_nat (by omega), h y (by omega)]; rfl
theorem uses_j {op : Int} (h0 : 0 ≤ op) (h1 : op < 23) : usesB (fdO (oI op)) 106 = decide (15 ≤ op ∧ op ≤ 19) := by
 rw [uses_tab 106 (fun y => decide (15 ≤ y ∧ y ≤ 19)) (fun y hy => by rcases y_cases hy with rfl | rfl | rfl | rfl | rfl | rfl | rfl | rfl | rfl | rfl | rfl | rfl | rfl | rfl | rfl | rfl | rfl | rfl | rfl | rfl | rfl | rfl | rfl <;> decide) h0 h1]
 exact decide_eq_decide.2 (by omega)
theorem uses_b {op : Int} (h0 : 0 ≤ op) (h1 : op < 23) : usesB (fdO (oI op)) 98 = decide (op = 20) := by
 rw [uses_tab 98 (fun y => decide (y = 20)) (fun y hy => by rcases y_cases hy with rfl | rfl | rfl | rfl | rfl | rfl | rfl | rfl | rfl | rfl | rfl | rfl | rfl | rfl | rfl | rfl | rfl | rfl | rfl | rfl | rfl | rfl | rfl <;> decide) h0 h1]
 exact decide_eq_decide.2 (by omega)
theorem uses_d {op : Int} (h0 : 0 ≤ op) (h1 : op < 23) : usesB (fdO (oI op)) 100 = decide (op ≤ 11 ∨ op = 13 ∨ op = 14) := by
 rw [uses_tab 100 (fun y => decide (y ≤ 11 ∨ y = 13 ∨ y = 14)) (fun y hy => by rcases y_cases hy with rfl | rfl | rfl | rfl | rfl | rfl | rfl | rfl | rfl | rfl | rfl | rfl | rfl | rfl | rfl | rfl | rfl | rfl | rfl | rfl | rfl | rfl | rfl <;> decide) h0 h1]
 exact decide_eq_decide.2 (by omega)
theorem uses_s {op : Int} (h0 : 0 ≤ op) (h1 : op < 23) : usesB (fdO (oI op)) 115 = decide (op ≤ 12 ∨ (16 ≤ op ∧ op ≤ 19)) := by
 rw [uses_tab 115 (fun y => decide (y ≤ 12 ∨ (16 ≤ y ∧ y ≤ 19))) (fun y hy => by rcases y_cases hy with rfl | rfl | rfl | rfl | rfl | rfl | rfl | rfl | rfl | rfl | rfl | rfl | rfl | rfl | rfl | rfl | rfl | rfl | rfl | rfl | rfl | rfl | rfl <;> decide) h0 h1]
 exact decide_eq_decide.2 (by omega)

/-- how far it leads, whether it does, may it go on? -/
def goesV (i : InstV) : Int × Bool × Bool :=
 if rightV i = true then (if 15 ≤ i.op ∧ i.op ≤ 19 then (i.d + 1, true, i.op != 15) else if i.op = 20 then (-i.d, true, true) else (0, false, i.op != 22)) else (0, false, false)
def writesV (i : InstV) : Int × Bool :=
 if rightV i = true then (if i.op ≤ 11 ∨ i.op = 13 ∨ i.op = 14 then (i.d, true) else (0, i.op == 21)) else (0, false)
def sourceV (i : InstV) : Bool := rightV i && decide (i.op ≤ 12 ∨ (16 ≤ i.op ∧ i.op ≤ 19))

theorem goes_any (w : World) (i : InstV) (ht : Frm w) :
 Calls Tryz.prog 91 #[insVal i] w fun e w' => e = .returned (.tuple #[.int .i64 (goesV i).1, .bool (goesV i).2.1, .bool (goesV i).2.2]) ∧ Below w.heap.size w w' := by
 obtain ⟨V, hV⟩ : ∃ V, goesV i = V := ⟨_, rfl⟩
 rw [hV]
 have HV := Lib.hid hV
 clear hV
 unfold goesV at HV
 have HT := Lib.hid ht
 clear ht
 have HRI := Lib.hid (fun (h : rightV i = true) => right_is h)
 have HU := Lib.hid (fun (c : Nat) (w : World) => uses_any w (nmO (oI i.op)) (fdO (oI i.op)) c (fd_le _))
 have HRG := Lib.hid (fun w ht => right_any w i ht)
 have HOF := Lib.hid (fun w ht => of_any w i.op ht)
 have HD := Lib.hid (@uses_d i.op)
 have HJ := Lib.hid (@uses_j i.op)
 have HB := Lib.hid (@uses_b i.op)
 have HS := Lib.hid (@uses_s i.op)
 unfold fmVal at HOF
 generalize nmO (oI i.op) = nm at HU HOF
 generalize fdO (oI i.op) = fd at HU HOF HD HJ HB HS
 obtain ⟨r, hr⟩ : ∃ r, rightV i = r := ⟨_, rfl⟩
 rw [hr] at HRI HRG HV
 clear hr
 obtain ⟨op, d, a, b, m⟩ := i
 unfold insVal at HRG ⊢
 dsimp only at HV HOF HD HJ HB HS HRI
 have O1 := Lib.hid (Ob.fresh w 59 [.int .i64 op, .int .i64 d, .int .i64 a, .int .i64 b, .int .i64 m])
 have B1 := Lib.hid (below_alloc (Below.refl w.heap.size w) (.cells #[.int .i64 op, .int .i64 d, .int .i64 a, .int .i64 b, .int .i64 m] 59))
 go_enter Tryz.func91, Tryz.ntmps91
 go_upto_region 1 with fail
 generalize w.alloc (.cells #[.int .i64 op, .int .i64 d, .int .i64 a, .int .i64 b, .int .i64 m] 59) = w2 at O1 B1 ⊢
 obtain ⟨q, hq⟩ : ∃ q, w.heap.size = q := ⟨_, rfl⟩
 rw [hq] at O1 ⊢
 clear hq
 have i0 := O1.out.c0
 have i1 := O1.out.c1
 have i2 := O1.out.c2
 have i3 := O1.out.c3
 have i4 := O1.out.c4
 go_wp2_with fail
 refine (HRG.out w2 (HT.out.below B1.out)).mono ?_
 rintro e w3 ⟨rfl, b3⟩
 have O3 := Lib.hid (O1.out.below b3 O1.out.lt)
 have B3 := Lib.hid (B1.out.trans (b3.mono B1.out.size))
 clear b3 O1 B1 i0 i1 i2 i3 i4 HRG
 cases r
 · have HV := Lib.hid (show ((0 : Int), false, false) = V by rw [← HV.out]; rfl)
   go_wp2_with fail
   exact bodyPost_ret (v := .tuple #[.int .i64 (0), .bool (false), .bool (false)]) (by simp [results, Tryz.results91, go_sem]) rfl ⟨by rw [← HV.out], B3.out⟩
 have i0 := O3.out.c0
 have i1 := O3.out.c1
 have i2 := O3.out.c2
 have i3 := O3.out.c3
 have i4 := O3.out.c4
 go_wp2_with fail
 refine (HOF.out w3 (HT.out.below B3.out)).mono ?_
 rintro e w4 ⟨rfl, b4⟩
 have O4 := Lib.hid ((O3.out.below b4 O3.out.lt).alloc (.cells #[.string nm, .string fd] 158))
 have F4 := Lib.hid (Ob.fresh w4 158 [.string nm, .string fd])
 have B4 := Lib.hid (below_alloc (B3.out.trans (b4.mono B3.out.size)) (.cells #[.string nm, .string fd] 158))
 clear b4 O3 B3 i0 i1 i2 i3 i4 HOF HT
 go_upto_region 4 with fail
 generalize w4.alloc (.cells #[.string nm, .string fd] 158) = w5 at O4 F4 B4 ⊢
 generalize w4.heap.size = q3 at F4 ⊢
 have h := HRI.out (by trivial)
 have o0 := h.o0
 have o1 := h.o1
 have d0 := h.d0
 have d1 := h.d1
 clear h HRI
 dsimp only at o0 o1 d0 d1
 have HV := Lib.hid (show (if 15 ≤ op ∧ op ≤ 19 then (d + 1, true, op != 15) else if op = 20 then (-d, true, true) else (0, false, op != 22)) = V by rw [← HV.out]; rfl)
 by_cases hj : 15 ≤ op ∧ op ≤ 19
 · have HV := Lib.hid (show (d + 1, true, op != 15) = V by rw [← HV.out]; exact (if_pos hj).symm)
   have HJ2 := Lib.hid (show usesB fd 106 = true by rw [HJ.out o0 o1]; exact decide_eq_true hj)
   have g9 : wrap64 (d + 1) = d + 1 := by unfold wrap64; omega
   clear hj o0 o1 d0 d1 HD HJ HB HS
   have i0 := O4.out.c0
   have i1 := O4.out.c1
   have i2 := O4.out.c2
   have i3 := O4.out.c3
   have i4 := O4.out.c4
   have s0 := F4.out.c0
   have s1 := F4.out.c1
   go_wp2_with fail
   refine (HU.out 106 w5).mono ?_
   rintro e w6 ⟨rfl, bu⟩
   rw [HJ2.out]
   have O6 := Lib.hid (O4.out.below bu O4.out.lt)
   have B6 := Lib.hid (B4.out.trans (bu.mono B4.out.size))
   clear bu s0 s1 i0 i1 i2 i3 i4
   have i0 := O6.out.c0
   have i1 := O6.out.c1
   have i2 := O6.out.c2
   have i3 := O6.out.c3
   have i4 := O6.out.c4
   go_wp2_with fail
   go_quiet (fail)
   go_wp2_with fail
   exact bodyPost_ret (v := .tuple #[.int .i64 (d + 1), .bool (true), .bool (op != 15)]) (by simp [results, Tryz.results91, go_sem, g9]) rfl ⟨by rw [← HV.out], below_drewN B6.out _⟩
 have HV := Lib.hid (show (if op = 20 then (-d, true, true) else (0, false, op != 22)) = V by rw [← HV.out]; exact (if_neg hj).symm)
 have HJ2 := Lib.hid (show usesB fd 106 = false by rw [HJ.out o0 o1]; exact decide_eq_false hj)
 by_cases hb : op = 20
 · have HV := Lib.hid (show (-d, true, true) = V by rw [← HV.out]; exact (if_pos hb).symm)
   have HB2 := Lib.hid (show usesB fd 98 = true by rw [HB.out o0 o1]; exact decide_eq_true hb)
   have g9 : wrap64 (-d) = -d := by unfold wrap64; omega
   clear hb hj o0 o1 d0 d1 HD HJ HB HS
   have i0 := O4.out.c0
   have i1 := O4.out.c1
   have i2 := O4.out.c2
   have i3 := O4.out.c3
   have i4 := O4.out.c4
   have s0 := F4.out.c0
   have s1 := F4.out.c1
   go_wp2_with fail
   refine (HU.out 106 w5).mono ?_
   rintro e w6 ⟨rfl, bu⟩
   rw [HJ2.out]
   have O6 := Lib.hid (O4.out.below bu O4.out.lt)
   have F6 := Lib.hid (F4.out.below bu F4.out.lt)
   have B6 := Lib.hid (B4.out.trans (bu.mono B4.out.size))
   clear bu s0 s1 i0 i1 i2 i3 i4
   have i0 := O6.out.c0
   have i1 := O6.out.c1
   have i2 := O6.out.c2
   have i3 := O6.out.c3
   have i4 := O6.out.c4
   have s0 := F6.out.c0
   have s1 := F6.out.c1
   go_wp2_with fail
   refine (HU.out 98 w6).mono ?_
   rintro e w7 ⟨rfl, bu⟩
   rw [HB2.out]
   have O7 := Lib.hid (O6.out.below bu O6.out.lt)
   have B7 := Lib.hid (B6.out.trans (bu.mono B6.out.size))
   clear bu s0 s1 i0 i1 i2 i3 i4
   have i0 := O7.out.c0
   have i1 := O7.out.c1
   have i2 := O7.out.c2
   have i3 := O7.out.c3
   have i4 := O7.out.c4
   go_wp2_with fail
   exact bodyPost_ret (v := .tuple #[.int .i64 (-d), .bool (true), .bool (true)]) (by simp [results, Tryz.results91, go_sem, g9]) rfl ⟨by rw [← HV.out], B7.out⟩
 have HV := Lib.hid (show (0, false, op != 22) = V by rw [← HV.out]; exact (if_neg hb).symm)
 have HB2 := Lib.hid (show usesB fd 98 = false by rw [HB.out o0 o1]; exact decide_eq_false hb)
 clear hb hj o0 o1 d0 d1 HD HJ HB HS
 have i0 := O4.out.c0
 have i1 := O4.out.c1
 have i2 := O4.out.c2
 have i3 := O4.out.c3
 have i4 := O4.out.c4
 have s0 := F4.out.c0
 have s1 := F4.out.c1
 go_wp2_with fail
 refine (HU.out 106 w5).mono ?_
 rintro e w6 ⟨rfl, bu⟩
 rw [HJ2.out]
 have O6 := Lib.hid (O4.out.below bu O4.out.lt)
 have F6 := Lib.hid (F4.out.below bu F4.out.lt)
 have B6 := Lib.hid (B4.out.trans (bu.mono B4.out.size))
 clear bu s0 s1 i0 i1 i2 i3 i4
 have i0 := O6.out.c0
 have i1 := O6.out.c1
 have i2 := O6.out.c2
 have i3 := O6.out.c3
 have i4 := O6.out.c4
 have s0 := F6.out.c0
 have s1 := F6.out.c1
 go_wp2_with fail
 refine (HU.out 98 w6).mono ?_
 rintro e w7 ⟨rfl, bu⟩
 rw [HB2.out]
 have O7 := Lib.hid (O6.out.below bu O6.out.lt)
 have B7 := Lib.hid (B6.out.trans (bu.mono B6.out.size))
 clear bu s0 s1 i0 i1 i2 i3 i4
 have i0 := O7.out.c0
 have i1 := O7.out.c1
 have i2 := O7.out.c2
 have i3 := O7.out.c3
 have i4 := O7.out.c4
 go_wp2_with fail
 go_quiet (fail)
 go_wp2_with fail
 exact bodyPost_ret (v := .tuple #[.int .i64 (0), .bool (false), .bool (op != 22)]) (by simp [results, Tryz.results91, go_sem]) rfl ⟨by rw [← HV.out], below_drewN B7.out _⟩

theorem writes_any (w : World) (i : InstV) (ht : Frm w) :
 Calls Tryz.prog 78 #[insVal i] w fun e w' => e = .returned (.tuple #[.int .i64 (writesV i).1, .bool (writesV i).2]) ∧ Below w.heap.size w w' := by
 obtain ⟨V, hV⟩ : ∃ V, writesV i = V := ⟨_, rfl⟩
 rw [hV]
 have HV := Lib.hid hV
 clear hV
 unfold writesV at HV
 have HT := Lib.hid ht
 clear ht
 have HRI := Lib.hid (fun (h : rightV i = true) => right_is h)
 have HU := Lib.hid (fun (c : Nat) (w : World) => uses_any w (nmO (oI i.op)) (fdO (oI i.op)) c (fd_le _))
 have HRG := Lib.hid (fun w ht => right_any w i ht)
 have HOF := Lib.hid (fun w ht => of_any w i.op ht)
 have HD := Lib.hid (@uses_d i.op)
 have HJ := Lib.hid (@uses_j i.op)
 have HB := Lib.hid (@uses_b i.op)
 have HS := Lib.hid (@uses_s i.op)
 unfold fmVal at HOF
 generalize nmO (oI i.op) = nm at HU HOF
 generalize fdO (oI i.op) = fd at HU HOF HD HJ HB HS
 obtain ⟨r, hr⟩ : ∃ r, rightV i = r := ⟨_, rfl⟩
 rw [hr] at HRI HRG HV
 clear hr
 obtain ⟨op, d, a, b, m⟩ := i
 unfold insVal at HRG ⊢
 dsimp only at HV HOF HD HJ HB HS HRI
 have O1 := Lib.hid (Ob.fresh w 59 [.int .i64 op, .int .i64 d, .int .i64 a, .int .i64 b, .int .i64 m])
 have B1 := Lib.hid (below_alloc (Below.refl w.heap.size w) (.cells #[.int .i64 op, .int .i64 d, .int .i64 a, .int .i64 b, .int .i64 m] 59))
 go_enter Tryz.func78, Tryz.ntmps78
 go_upto_region 1 with fail
 generalize w.alloc (.cells #[.int .i64 op, .int .i64 d, .int .i64 a, .int .i64 b, .int .i64 m] 59) = w2 at O1 B1 ⊢
 obtain ⟨q, hq⟩ : ∃ q, w.heap.size = q := ⟨_, rfl⟩
 rw [hq] at O1 ⊢
 clear hq
 have i0 := O1.out.c0
 have i1 := O1.out.c1
 have i2 := O1.out.c2
 have i3 := O1.out.c3
 have i4 := O1.out.c4
 go_wp2_with fail
 refine (HRG.out w2 (HT.out.below B1.out)).mono ?_
 rintro e w3 ⟨rfl, b3⟩
 have O3 := Lib.hid (O1.out.below b3 O1.out.lt)
 have B3 := Lib.hid (B1.out.trans (b3.mono B1.out.size))
 clear b3 O1 B1 i0 i1 i2 i3 i4 HRG
 cases r
 · have HV := Lib.hid (show ((0 : Int), false) = V by rw [← HV.out]; rfl)
   go_wp2_with fail
   go_ret2
   exact ⟨by rw [← HV.out] <;> first | done | rfl, B3.out⟩
 have i0 := O3.out.c0
 have i1 := O3.out.c1
 have i2 := O3.out.c2
 have i3 := O3.out.c3
 have i4 := O3.out.c4
 go_wp2_with fail
 refine (HOF.out w3 (HT.out.below B3.out)).mono ?_
 rintro e w4 ⟨rfl, b4⟩
 have O4 := Lib.hid ((O3.out.below b4 O3.out.lt).alloc (.cells #[.string nm, .string fd] 158))
 have F4 := Lib.hid (Ob.fresh w4 158 [.string nm, .string fd])
 have B4 := Lib.hid (below_alloc (B3.out.trans (b4.mono B3.out.size)) (.cells #[.string nm, .string fd] 158))
 clear b4 O3 B3 i0 i1 i2 i3 i4 HOF HT
 go_upto_region 4 with fail
 generalize w4.alloc (.cells #[.string nm, .string fd] 158) = w5 at O4 F4 B4 ⊢
 generalize w4.heap.size = q3 at F4 ⊢
 have h := HRI.out (by trivial)
 have o0 := h.o0
 have o1 := h.o1
 clear h HRI
 dsimp only at o0 o1
 have HV := Lib.hid (show (if op ≤ 11 ∨ op = 13 ∨ op = 14 then (d, true) else (0, op == 21)) = V by rw [← HV.out]; rfl)
 by_cases hj : op ≤ 11 ∨ op = 13 ∨ op = 14
 · have HV := Lib.hid (show (d, true) = V by rw [← HV.out]; exact (if_pos hj).symm)
   have HJ2 := Lib.hid (show usesB fd 100 = true by rw [HD.out o0 o1]; exact decide_eq_true hj)
   clear hj o0 o1 HD HJ HB HS
   have i0 := O4.out.c0
   have i1 := O4.out.c1
   have i2 := O4.out.c2
   have i3 := O4.out.c3
   have i4 := O4.out.c4
   have s0 := F4.out.c0
   have s1 := F4.out.c1
   go_wp2_with fail
   refine (HU.out 100 w5).mono ?_
   rintro e w6 ⟨rfl, bu⟩
   rw [HJ2.out]
   have O6 := Lib.hid (O4.out.below bu O4.out.lt)
   have B6 := Lib.hid (B4.out.trans (bu.mono B4.out.size))
   clear bu s0 s1 i0 i1 i2 i3 i4
   have i0 := O6.out.c0
   have i1 := O6.out.c1
   have i2 := O6.out.c2
   have i3 := O6.out.c3
   have i4 := O6.out.c4
   go_wp2_with fail
   go_ret2
   exact ⟨by rw [← HV.out] <;> first | done | rfl, B6.out⟩
 have HV := Lib.hid (show (0, op == 21) = V by rw [← HV.out]; exact (if_neg hj).symm)
 have HJ2 := Lib.hid (show usesB fd 100 = false by rw [HD.out o0 o1]; exact decide_eq_false hj)
 clear hj o0 o1 HD HJ HB HS
 have i0 := O4.out.c0
 have i1 := O4.out.c1
 have i2 := O4.out.c2
 have i3 := O4.out.c3
 have i4 := O4.out.c4
 have s0 := F4.out.c0
 have s1 := F4.out.c1
 go_wp2_with fail
 refine (HU.out 100 w5).mono ?_
 rintro e w6 ⟨rfl, bu⟩
 rw [HJ2.out]
 have O6 := Lib.hid (O4.out.below bu O4.out.lt)
 have B6 := Lib.hid (B4.out.trans (bu.mono B4.out.size))
 clear bu s0 s1 i0 i1 i2 i3 i4
 have i0 := O6.out.c0
 have i1 := O6.out.c1
 have i2 := O6.out.c2
 have i3 := O6.out.c3
 have i4 := O6.out.c4
 go_wp2_with fail
 go_quiet (fail)
 go_wp2_with fail
 go_ret2
 exact ⟨by rw [← HV.out] <;> first | done | rfl, below_drewN B6.out _⟩

theorem source_any (w : World) (i : InstV) (ht : Frm w) :
 Calls Tryz.prog 81 #[insVal i] w fun e w' => e = .returned (.bool (sourceV i)) ∧ Below w.heap.size w w' := by
 obtain ⟨V, hV⟩ : ∃ V, sourceV i = V := ⟨_, rfl⟩
 rw [hV]
 have HV := Lib.hid hV
 clear hV
 unfold sourceV at HV
 have HT := Lib.hid ht
 clear ht
 have HRI := Lib.hid (fun (h : rightV i = true) => right_is h)
 have HU := Lib.hid (fun (c : Nat) (w : World) => uses_any w (nmO (oI i.op)) (fdO (oI i.op)) c (fd_le _))
 have HRG := Lib.hid (fun w ht => right_any w i ht)
 have HOF := Lib.hid (fun w ht => of_any w i.op ht)
 have HD := Lib.hid (@uses_d i.op)
 have HJ := Lib.hid (@uses_j i.op)
 have HB := Lib.hid (@uses_b i.op)
 have HS := Lib.hid (@uses_s i.op)
 unfold fmVal at HOF
 generalize nmO (oI i.op) = nm at HU HOF
 generalize fdO (oI i.op) = fd at HU HOF HD HJ HB HS
 obtain ⟨r, hr⟩ : ∃ r, rightV i = r := ⟨_, rfl⟩
 rw [hr] at HRI HRG HV
 clear hr
 obtain ⟨op, d, a, b, m⟩ := i
 unfold insVal at HRG ⊢
 dsimp only at HV HOF HD HJ HB HS HRI
 have O1 := Lib.hid (Ob.fresh w 59 [.int .i64 op, .int .i64 d, .int .i64 a, .int .i64 b, .int .i64 m])
 have B1 := Lib.hid (below_alloc (Below.refl w.heap.size w) (.cells #[.int .i64 op, .int .i64 d, .int .i64 a, .int .i64 b, .int .i64 m] 59))
 go_enter Tryz.func81, Tryz.ntmps81
 go_upto_region 1 with fail
 generalize w.alloc (.cells #[.int .i64 op, .int .i64 d, .int .i64 a, .int .i64 b, .int .i64 m] 59) = w2 at O1 B1 ⊢
 obtain ⟨q, hq⟩ : ∃ q, w.heap.size = q := ⟨_, rfl⟩
 rw [hq] at O1 ⊢
 clear hq
 have i0 := O1.out.c0
 have i1 := O1.out.c1
 have i2 := O1.out.c2
 have i3 := O1.out.c3
 have i4 := O1.out.c4
 go_wp2_with fail
 refine (HOF.out w2 (HT.out.below B1.out)).mono ?_
 rintro e w4 ⟨rfl, b4⟩
 have O4 := Lib.hid ((O1.out.below b4 O1.out.lt).alloc (.cells #[.string nm, .string fd] 158))
 have F4 := Lib.hid (Ob.fresh w4 158 [.string nm, .string fd])
 have B4 := Lib.hid (below_alloc (B1.out.trans (b4.mono B1.out.size)) (.cells #[.string nm, .string fd] 158))
 clear b4 O1 B1 i0 i1 i2 i3 i4 HOF
 go_upto_region 2 with fail
 generalize w4.alloc (.cells #[.string nm, .string fd] 158) = w5 at O4 F4 B4 ⊢
 generalize w4.heap.size = q3 at F4 ⊢
 have i0 := O4.out.c0
 have i1 := O4.out.c1
 have i2 := O4.out.c2
 have i3 := O4.out.c3
 have i4 := O4.out.c4
 go_wp2_with fail
 refine (HRG.out w5 (HT.out.below B4.out)).mono ?_
 rintro e w6 ⟨rfl, bu⟩
 have F6 := Lib.hid (F4.out.below bu F4.out.lt)
 have B6 := Lib.hid (B4.out.trans (bu.mono B4.out.size))
 clear bu i0 i1 i2 i3 i4 O4 F4 B4 HRG HT
 cases r
 · have HV := Lib.hid (show false = V by rw [← HV.out]; rfl)
   go_wp2_with fail
   go_ret
   exact ⟨by rw [← HV.out] <;> first | done | rfl, B6.out⟩
 have h := HRI.out (by trivial)
 have HS2 := Lib.hid (show usesB fd 115 = V by rw [← HV.out, Bool.true_and]; exact HS.out h.o0 h.o1)
 clear h HRI HD HJ HB HS
 have s0 := F6.out.c0
 have s1 := F6.out.c1
 go_wp2_with fail
 refine (HU.out 115 w6).mono ?_
 rintro e w7 ⟨rfl, bu⟩
 rw [HS2.out]
 have B7 := Lib.hid (B6.out.trans (bu.mono B6.out.size))
 clear bu s0 s1
 go_wp2_with fail
 go_ret
 exact ⟨rfl, B7.out⟩

end Go.Proofs.YtikkmkomlajnfaaGreatDoor.Op
end

section
namespace Go.Proofs.YtikkmkomlajnfaaGreatDoor.Op
set_option maxRecDepth 100000
set_option maxHeartbeats 4000000
open Go.RowKit

def ins0 : InstV := ⟨0, 0, 0, 0, 0⟩
def inss (l : List InstV) : List Value := l.flatMap insc
theorem inss_length (l : List InstV) : (inss l).length = l.length * 5 := flat_length insc 5 (fun _ => rfl) l
theorem ins_at {w : World} {A : Option Addr} {l : List InstV} (h : Sl w A (inss l)) (hn : 0 < l.length) :
 ∃ b o, A = some ⟨b, o, none⟩ ∧ b < w.heap.size ∧ ∀ k, k < l.length → w.cell? ⟨b, o + k * 5, none⟩ = some (.int .i64 (l.getD k ins0).op) ∧ w.cell? ⟨b, o + k * 5 + 1, none⟩ = some (.int .i64 (l.getD k ins0).d) ∧
  w.cell? ⟨b, o + k * 5 + 2, none⟩ = some (.int .i64 (l.getD k ins0).a) ∧ w.cell? ⟨b, o + k * 5 + 3, none⟩ = some (.int .i64 (l.getD k ins0).b) ∧ w.cell? ⟨b, o + k * 5 + 4, none⟩ = some (.int .i64 (l.getD k ins0).m) := by
 obtain ⟨b, o, e, hc⟩ := h (by rw [inss_length]; omega)
 rw [inss_length] at hc
 have key : ∀ k j, k < l.length → j < 5 → w.cell? ⟨b, o + k * 5 + j, none⟩ = some ((insc (l.getD k ins0)).getD j undef) := fun k j hk hj => by
  have h1 := hc (k * 5 + j) (by omega)
  have h2 : (inss l)[k * 5 + j]? = (insc (l.getD k ins0))[j]? := flat_get ins0 insc 5 (fun _ => rfl) l k j hk hj
  rw [← Nat.add_assoc] at h1
  rw [h1, List.getD_eq_getElem?_getD (l := inss l), h2, ← List.getD_eq_getElem?_getD (l := insc (l.getD k ins0))]
 refine ⟨b, o, e, cell_lt (hc 0 (by omega)), fun k hk => ⟨key k 0 hk (by omega), key k 1 hk (by omega), key k 2 hk (by omega), key k 3 hk (by omega), key k 4 hk (by omega)⟩⟩
theorem insc_one (i : InstV) : ∀ u ∈ insc i, u.oneCell' = true := by
 intro u hu
 simp only [insc, List.mem_cons, List.mem_nil_iff, or_false] at hu
 rcases hu with rfl | rfl | rfl | rfl | rfl <;> rfl
theorem inss_allone (l : List InstV) : ∀ u ∈ inss l, u.oneCell' = true := by
 intro u hu
 obtain ⟨t, _, h⟩ := List.mem_flatMap.1 hu
 exact insc_one t u h
theorem Frm.alloc {w : World} (h : Frm w) (o : Obj) : Frm (w.alloc o) := h.below (below_alloc (Below.refl _ _) o)

/-- Right of one instruction -/
theorem right1_any (w : World) (i : InstV) (A : Option Addr) (c : Nat) (ht : Frm w) (hs : Sl w A (insc i)) :
 Calls Tryz.prog 13 #[.slice A 1 c] w fun e w' => e = .returned (.bool (rightV i)) ∧ Below w.heap.size w w' := by
 have HT := Lib.hid ht
 have HS := Lib.hid hs
 have HR := Lib.hid (fun w ht => right_any w i ht)
 obtain ⟨b, o, rfl, hc⟩ := hs (by show 0 < 5; omega)
 clear ht hs hc
 obtain ⟨r, hr⟩ : ∃ r, rightV i = r := ⟨_, rfl⟩
 rw [hr] at HR ⊢
 clear hr
 obtain ⟨op, d, a, bb, m⟩ := i
 unfold insVal at HR
 dsimp only at HR
 go_enter Tryz.func13, Tryz.ntmps13
 go_wp2_with fail
 go_loopw [7] (fun i wr => ∃ k : Nat, k ≤ 1 ∧ i = .int .i64 k ∧ (k = 1 → r = true) ∧ Below w.heap.size w wr) (fun i _ => 1 - (intOf i).toNat)
 case atStart => exact ⟨0, Nat.zero_le _, rfl, fun h => absurd h (by decide), Below.refl _ _⟩
 case round =>
  obtain ⟨k, hk, rfl, hkr, hb⟩ := hrel
  have HB := Lib.hid hb
  have HK := Lib.hid hkr
  have S1 := Lib.hid (HS.out.below hb)
  clear hb hkr
  obtain ⟨b', o', e, hc⟩ := S1.out (by show 0 < 5; omega)
  cases e
  by_cases hlt : k < 1
  · have hk0 : k = 0 := by omega
    subst hk0
    have c0 : wr.cell? ⟨b, o, none⟩ = some (.int .i64 op) := hc 0 (by show 0 < 5; omega)
    have c1 : wr.cell? ⟨b, o + 1, none⟩ = some (.int .i64 d) := hc 1 (by show 1 < 5; omega)
    have c2 : wr.cell? ⟨b, o + 2, none⟩ = some (.int .i64 a) := hc 2 (by show 2 < 5; omega)
    have c3 : wr.cell? ⟨b, o + 3, none⟩ = some (.int .i64 bb) := hc 3 (by show 3 < 5; omega)
    have c4 : wr.cell? ⟨b, o + 4, none⟩ = some (.int .i64 m) := hc 4 (by show 4 < 5; omega)
    have O1 := Lib.hid (Ob.fresh wr 59 [.int .i64 op, .int .i64 d, .int .i64 a, .int .i64 bb, .int .i64 m])
    have B1 := Lib.hid (below_alloc HB.out (.cells #[.int .i64 op, .int .i64 d, .int .i64 a, .int .i64 bb, .int .i64 m] 59))
    clear hc HB hk hlt
    go_upto_region 4 with fail
    clear c0 c1 c2 c3 c4
    generalize wr.alloc (.cells #[.int .i64 op, .int .i64 d, .int .i64 a, .int .i64 bb, .int .i64 m] 59) = w2 at O1 B1 ⊢
    generalize wr.heap.size = q at O1 ⊢
    have i0 := O1.out.c0
    have i1 := O1.out.c1
    have i2 := O1.out.c2
    have i3 := O1.out.c3
    have i4 := O1.out.c4
    go_wp2_with fail
    refine (HR.out w2 (HT.out.below B1.out)).mono ?_
    rintro e w3 ⟨rfl, b3⟩
    have B3 := Lib.hid (B1.out.trans (b3.mono B1.out.size))
    clear b3
    cases r
    · go_wp2_with fail
      go_ret
      exact ⟨rfl, B3.out⟩
    go_wp2_with fail
    exact ⟨⟨1, by omega, by go_num, fun _ => by trivial, B3.out⟩, by simp [intOf]⟩
  have hk1 : k = 1 := by omega
  subst hk1
  have HR1 := HK.out rfl
  subst HR1
  clear hlt hk hc
  go_wp2_with fail
  go_ret
  exact ⟨rfl, HB.out⟩

/-- a loop -/
structure LoopV where
 h : Int
 a : Int
 b : Int
def lp0 : LoopV := ⟨0, 0, 0⟩
def lpc (l : LoopV) : List Value := [.int .i64 l.h, .int .i64 l.a, .int .i64 l.b]
def lpVal (l : LoopV) : Value := .agg #[.int .i64 l.h, .int .i64 l.a, .int .i64 l.b]
def lps (l : List LoopV) : List Value := l.flatMap lpc
theorem lps_length (l : List LoopV) : (lps l).length = l.length * 3 := flat_length lpc 3 (fun _ => rfl) l
theorem lps_app (a b : List LoopV) : lps (a ++ b) = lps a ++ lps b := List.flatMap_append
theorem lps_one (a : LoopV) : lps [a] = lpc a := by simp [lps]
theorem lpc_one (i : LoopV) : ∀ u ∈ lpc i, u.oneCell' = true := by
 intro u hu
 simp only [lpc, List.mem_cons, List.mem_nil_iff, or_false] at hu
 rcases hu with rfl | rfl | rfl <;> rfl
theorem lp_at {w : World} {A : Option Addr} {l : List LoopV} (h : Sl w A (lps l)) (hn : 0 < l.length) :
 ∃ b o, A = some ⟨b, o, none⟩ ∧ b < w.heap.size ∧ ∀ k, k < l.length → w.cell? ⟨b, o + k * 3, none⟩ = some (.int .i64 (l.getD k lp0).h) ∧ w.cell? ⟨b, o + k * 3 + 1, none⟩ = some (.int .i64 (l.getD k lp0).a) ∧
  w.cell? ⟨b, o + k * 3 + 2, none⟩ = some (.int .i64 (l.getD k lp0).b) := by
 obtain ⟨b, o, e, hc⟩ := h (by rw [lps_length]; omega)
 rw [lps_length] at hc
 have key : ∀ k j, k < l.length → j < 3 → w.cell? ⟨b, o + k * 3 + j, none⟩ = some ((lpc (l.getD k lp0)).getD j undef) := fun k j hk hj => by
  have h1 := hc (k * 3 + j) (by omega)
  have h2 : (lps l)[k * 3 + j]? = (lpc (l.getD k lp0))[j]? := flat_get lp0 lpc 3 (fun _ => rfl) l k j hk hj
  rw [← Nat.add_assoc] at h1
  rw [h1, List.getD_eq_getElem?_getD (l := lps l), h2, ← List.getD_eq_getElem?_getD (l := lpc (l.getD k lp0))]
 refine ⟨b, o, e, cell_lt (hc 0 (by omega)), fun k hk => ⟨key k 0 hk (by omega), key k 1 hk (by omega), key k 2 hk (by omega)⟩⟩
theorem loop_info : (Tryz.prog.info? 172).map (fun i => (i.zero, i.size, i.bytes)) = some (some (.agg #[.int .i64 0, .int .i64 0, .int .i64 0]), 3, 24) := by kernel_rfl

def inL (l : LoopV) (p : Int) : Bool := decide (l.h ≤ p ∧ p ≤ l.a)
theorem in_any (w : World) (l : LoopV) (p : Int) : Calls Tryz.prog 118 #[lpVal l, .int .i64 p] w fun e w' => e = .returned (.bool (inL l p)) ∧ Below w.heap.size w w' := by
 obtain ⟨h, a, b⟩ := l
 unfold lpVal inL
 dsimp only
 have O1 := Lib.hid (Ob.fresh w 172 [.int .i64 h, .int .i64 a, .int .i64 b])
 have B1 := Lib.hid (below_alloc (Below.refl w.heap.size w) (.cells #[.int .i64 h, .int .i64 a, .int .i64 b] 172))
 obtain ⟨V, hV⟩ : ∃ V, decide (h ≤ p ∧ p ≤ a) = V := ⟨_, rfl⟩
 rw [hV]
 have HV := Lib.hid hV
 clear hV
 by_cases h1 : h ≤ p
 · by_cases h2 : p ≤ a
   · have HR := Lib.hid (show V = true by rw [← HV.out]; exact decide_eq_true ⟨h1, h2⟩)
     go_enter Tryz.func118, Tryz.ntmps118
     go_upto_region 1 with fail
     generalize w.alloc (.cells #[.int .i64 h, .int .i64 a, .int .i64 b] 172) = w2 at O1 B1 ⊢
     have i0 : w2.cell? ⟨w.heap.size, 0, none⟩ = some (.int .i64 h) := O1.out.cell 0
     have i1 : w2.cell? ⟨w.heap.size, 1, none⟩ = some (.int .i64 a) := O1.out.cell 1
     go_wp2_with fail
     go_ret
     exact ⟨by rw [HR.out] <;> first | done | rfl, B1.out⟩
   have HR := Lib.hid (show V = false by rw [← HV.out]; exact decide_eq_false fun h => h2 h.2)
   go_enter Tryz.func118, Tryz.ntmps118
   go_upto_region 1 with fail
   generalize w.alloc (.cells #[.int .i64 h, .int .i64 a, .int .i64 b] 172) = w2 at O1 B1 ⊢
   have i0 : w2.cell? ⟨w.heap.size, 0, none⟩ = some (.int .i64 h) := O1.out.cell 0
   have i1 : w2.cell? ⟨w.heap.size, 1, none⟩ = some (.int .i64 a) := O1.out.cell 1
   go_wp2_with fail
   go_ret
   exact ⟨by rw [HR.out] <;> first | done | rfl, B1.out⟩
 have HR := Lib.hid (show V = false by rw [← HV.out]; exact decide_eq_false fun h => h1 h.1)
 go_enter Tryz.func118, Tryz.ntmps118
 go_upto_region 1 with fail
 generalize w.alloc (.cells #[.int .i64 h, .int .i64 a, .int .i64 b] 172) = w2 at O1 B1 ⊢
 have i0 : w2.cell? ⟨w.heap.size, 0, none⟩ = some (.int .i64 h) := O1.out.cell 0
 have i1 : w2.cell? ⟨w.heap.size, 1, none⟩ = some (.int .i64 a) := O1.out.cell 1
 go_wp2_with fail
 go_ret
 exact ⟨by rw [HR.out] <;> first | done | rfl, B1.out⟩

/-- the loops of the first k instructions -/
def loopsT (l : List InstV) : Nat → List LoopV
 | 0 => []
 | k + 1 => loopsT l k ++ (if (l.getD k ins0).op = 20 then [⟨(k : Int) - (l.getD k ins0).d, k, (l.getD k ins0).m⟩] else [])
def loopsV (l : List InstV) : List LoopV := loopsT l l.length
theorem loopsT_len (l : List InstV) : ∀ k, (loopsT l k).length ≤ k
 | 0 => Nat.le_refl _
 | k + 1 => by
   have := loopsT_len l k
   unfold loopsT
   split <;> simp <;> omega

theorem loops_any (w : World) (l : List InstV) (A : Option Addr) (n c : Nat) (hn : n = l.length) (hm : n ≤ 64) (hr : ∀ i ∈ l, rightV i = true) (hs : Sl w A (inss l)) :
 Calls Tryz.prog 77 #[.slice A n c] w fun e w' => ∃ A' c', e = .returned (.slice A' (loopsV l).length c') ∧ (loopsV l).length ≤ c' ∧ Sl w' A' (lps (loopsV l)) ∧ Below w.heap.size w w' := by
 have HN := Lib.hid hn
 have HS := Lib.hid hs
 have HRI := Lib.hid hr
 clear hn hs hr
 obtain ⟨i0, hi0, hz0, hz1, hz2⟩ := info_parts loop_info
 go_enter Tryz.func77, Tryz.ntmps77
 go_wp2_with fail
 go_loopw [3, 8] (fun u i wr => ∃ k : Nat, k ≤ n ∧ i = .int .i64 k ∧ wr.ownsRow w.heap.size 172 3 u (loopsT l k).length (lps (loopsT l k)) ∧ Below w.heap.size w wr) (fun _ i _ => n - (intOf i).toNat)
 case atStart => exact ⟨0, Nat.zero_le _, rfl, World.ownsRow_nil _ _ _ _, Below.refl _ _⟩
 case round =>
  obtain ⟨k, hk, rfl, hown, hb⟩ := hrel
  have HO := Lib.hid hown
  have HB := Lib.hid hb
  clear hown hb
  by_cases hlt : k < n
  · have g1 : (k : Int) < (n : Int) := by omega
    have g0 : (0 : Int) ≤ (k : Int) := by omega
    have hkl : k < l.length := by have := HN.out; omega
    obtain ⟨bq, oq, rfl, _, hc⟩ := ins_at (HS.out.below HB.out) (by have := HN.out; omega)
    obtain ⟨c0, c1, c2, c3, c4⟩ := hc k hkl
    have HST := Lib.hid (show loopsT l (k + 1) = loopsT l k ++ (if (l.getD k ins0).op = 20 then [⟨(k : Int) - (l.getD k ins0).d, k, (l.getD k ins0).m⟩] else []) from rfl)
    have hri := right_is (HRI.out (l.getD k ins0) (by rw [List.getD_eq_getElem?_getD, List.getElem?_eq_getElem hkl]; exact List.getElem_mem hkl))
    have hd0 := hri.d0
    have hd1 := hri.d1
    clear hri hc hkl
    generalize l.getD k ins0 = i at c0 c1 c2 c3 c4 HST hd0 hd1
    obtain ⟨op, d, a, b, m⟩ := i
    dsimp only at c0 c1 c2 c3 c4 HST hd0 hd1
    have g9 : wrap64 ((k : Int) - d) = (k : Int) - d := by unfold wrap64; omega
    have g4 : wrap64 ((k : Int) + 1) = (k : Int) + 1 := by unfold wrap64; omega
    have O1 := Lib.hid (Ob.fresh wr 59 [.int .i64 op, .int .i64 d, .int .i64 a, .int .i64 b, .int .i64 m])
    have B1 := Lib.hid (below_alloc HB.out (.cells #[.int .i64 op, .int .i64 d, .int .i64 a, .int .i64 b, .int .i64 m] 59))
    have W1 := Lib.hid (World.ownsRow.alloc HO.out (.cells #[.int .i64 op, .int .i64 d, .int .i64 a, .int .i64 b, .int .i64 m] 59))
    clear hd0 hd1 HB HO
    go_upto_region 5 with fail
    clear c0 c1 c2 c3 c4
    generalize wr.alloc (.cells #[.int .i64 op, .int .i64 d, .int .i64 a, .int .i64 b, .int .i64 m] 59) = w2 at O1 B1 W1 ⊢
    generalize wr.heap.size = q at O1 ⊢
    have i0' : w2.cell? ⟨q, 0, none⟩ = some (.int .i64 op) := O1.out.cell 0
    have i1' : w2.cell? ⟨q, 1, none⟩ = some (.int .i64 d) := O1.out.cell 1
    have i4' : w2.cell? ⟨q, 4, none⟩ = some (.int .i64 m) := O1.out.cell 4
    by_cases ho : op = 20
    · have HST := Lib.hid (HST.out.trans (by rw [if_pos ho]))
      have g5 : (op == 20) = true := by rw [ho]; rfl
      clear ho
      go_wp2_with
      (at_builtin
       refine wpList_append_in _ rfl (.tmp 16) (.tmp 25) _ rfl (below_alloc B1.out _) 172 i0 _ 3 24 Tryz.underlying124 hi0 hz0 hz1 hz2 rfl (by omega) u3 (loopsT l k).length (lps (loopsT l k)) rfl (World.ownsRow.alloc W1.out _)
        (some ⟨w2.heap.size, 0, none⟩) 1 1 (lpc ⟨(k : Int) - d, k, m⟩) rfl rfl (Sl.fresh w2 (lpc ⟨(k : Int) - d, k, m⟩).toArray 172 (0, 0)) (lpc_one _) (by have := loopsT_len l k; omega) (by omega) ?_
       intro v2 w3 hown hb2 g1' g2'
       have HR := Lib.hid hown
       have HB4 := Lib.hid hb2
       clear hown hb2 g1' g2')
      refine ⟨⟨k + 1, by omega, by go_num, by rw [HST.out, List.length_append, lps_app, lps_one]; exact HR.out, HB4.out⟩, by simp [intOf]; omega⟩
    have HST := Lib.hid (HST.out.trans (by rw [if_neg ho, List.append_nil]))
    have g5 : (op == 20) = false := by rw [beq_eq_false_iff_ne]; exact ho
    clear ho
    go_wp2_with fail
    refine ⟨⟨k + 1, by omega, by go_num, by rw [HST.out]; exact W1.out, B1.out⟩, by simp [intOf]; omega⟩
  have g1 : ¬ (k : Int) < (n : Int) := by omega
  have hke : k = l.length := by have := HN.out; omega
  subst hke
  obtain ⟨A', c', hu, hle, _, hsl, _⟩ := own_form HO.out
  subst hu
  have HSL := Lib.hid hsl
  have HLE := Lib.hid hle
  clear hsl hle
  go_wp2_with fail
  go_ret
  exact ⟨A', c', rfl, HLE.out, HSL.out, HB.out⟩

end Go.Proofs.YtikkmkomlajnfaaGreatDoor.Op
end

section
namespace Go.Proofs.YtikkmkomlajnfaaGreatDoor.Op
set_option maxRecDepth 100000
set_option maxHeartbeats 4000000
open Go.RowKit

/-- what is wrong with the place p -/
def plV (R L O : Bool) (D p n : Int) : Int :=
 if R = true then (if L = true ∧ (p + D < 0 ∨ n ≤ p + D) then 30 else if O = true ∧ p = n - 1 then 36 else 0) else 12
def plBad (l : List InstV) (p : Nat) : Int := plV (rightV (l.getD p ins0)) (goesV (l.getD p ins0)).2.1 (goesV (l.getD p ins0)).2.2 (goesV (l.getD p ins0)).1 p l.length
def plFrom (l : List InstV) (k : Nat) : Nat → Int × Int
 | 0 => (0, 0)
 | f + 1 => if plBad l k = 0 then plFrom l (k + 1) f else (k, plBad l k)
def placesV (l : List InstV) : Int × Int := plFrom l 0 l.length

theorem goes_le (i : InstV) : -63 ≤ (goesV i).1 ∧ (goesV i).1 ≤ 64 := by
 unfold goesV
 split
 · rename_i h
   have r := right_is h
   have := r.d0
   have := r.d1
   split
   · simp; omega
   split <;> simp <;> omega
 simp

theorem places_any (w : World) (l : List InstV) (A : Option Addr) (n c : Nat) (hn : n = l.length) (hm : n ≤ 64) (ht : Frm w) (hs : Sl w A (inss l)) :
 Calls Tryz.prog 74 #[.slice A n c] w fun e w' => e = .returned (.tuple #[.int .i64 (placesV l).1, .int .i64 (placesV l).2]) ∧ Below w.heap.size w w' := by
 have HN := Lib.hid hn
 have HS := Lib.hid hs
 have HT := Lib.hid ht
 have HG := Lib.hid (fun w i ht => goes_any w i ht)
 have HRG := Lib.hid (fun w i A c ht hs => right1_any w i A c ht hs)
 obtain ⟨V, hV⟩ : ∃ V, placesV l = V := ⟨_, rfl⟩
 rw [hV]
 have HV := Lib.hid (show plFrom l 0 (n - 0) = V by rw [← hV, hn]; rfl)
 clear hn hs ht hV
 go_enter Tryz.func74, Tryz.ntmps74
 go_wp2_with fail
 go_loopw [11] (fun i wr => ∃ k : Nat, k ≤ n ∧ i = .int .i64 k ∧ plFrom l k (n - k) = V ∧ Below w.heap.size w wr) (fun i _ => n - (intOf i).toNat)
 case atStart => exact ⟨0, Nat.zero_le _, rfl, HV.out, Below.refl _ _⟩
 case round =>
  obtain ⟨k, hk, rfl, hv, hb⟩ := hrel
  clear HV
  have HV := Lib.hid hv
  have HB := Lib.hid hb
  clear hv hb
  by_cases hlt : k < n
  · have g1 : (k : Int) < (n : Int) := by omega
    have g0 : (0 : Int) ≤ (k : Int) := by omega
    have hkl : k < l.length := by have := HN.out; omega
    obtain ⟨bq, oq, rfl, _, hc⟩ := ins_at (HS.out.below HB.out) (by have := HN.out; omega)
    obtain ⟨c0, c1, c2, c3, c4⟩ := hc k hkl
    have HSV := Lib.hid (show (if plBad l k = 0 then plFrom l (k + 1) (n - (k + 1)) else ((k : Int), plBad l k)) = V by rw [← HV.out, show n - k = (n - (k + 1)) + 1 by omega]; rfl)
    have HPB := Lib.hid (show plBad l k = plV (rightV (l.getD k ins0)) (goesV (l.getD k ins0)).2.1 (goesV (l.getD k ins0)).2.2 (goesV (l.getD k ins0)).1 k n by rw [HN.out]; rfl)
    have HLE := goes_le (l.getD k ins0)
    clear hc hkl HV
    have HPR : ∀ w A c, Frm w → Sl w A (insc (l.getD k ins0)) → _ := fun w A c ht hs => HRG.out w (l.getD k ins0) A c ht hs
    have HGO := Lib.hid (fun w ht => HG.out w (l.getD k ins0) ht)
    have HRO := Lib.hid HPR
    clear HPR
    generalize plBad l k = PB at HPB HSV
    generalize l.getD k ins0 = i at c0 c1 c2 c3 c4 HPB HLE HGO HRO
    obtain ⟨R, hR⟩ : ∃ R, rightV i = R := ⟨_, rfl⟩
    obtain ⟨⟨D, L, O⟩, hG⟩ : ∃ x, goesV i = x := ⟨_, rfl⟩
    rw [hR, hG] at HPB
    rw [hG] at HLE HGO
    rw [hR] at HRO
    clear hR hG
    obtain ⟨op, d, a, b, m⟩ := i
    unfold insVal at HGO
    unfold insc at HRO
    dsimp only at c0 c1 c2 c3 c4 HPB HLE HGO HRO
    obtain ⟨hd0, hd1⟩ := HLE
    have g9 : wrap64 ((k : Int) + D) = (k : Int) + D := by unfold wrap64; omega
    have g4 : wrap64 ((k : Int) + 1) = (k : Int) + 1 := by unfold wrap64; omega
    obtain ⟨N1, hN1⟩ : ∃ N1, (n : Int) - 1 = N1 := ⟨_, rfl⟩
    have g8 : wrap64 ((n : Int) - 1) = (n : Int) - 1 := by unfold wrap64; omega
    have HPB := Lib.hid (show PB = if R = true then (if L = true ∧ ((k : Int) + D < 0 ∨ (n : Int) ≤ (k : Int) + D) then 30 else if O = true ∧ (k : Int) = N1 then 36 else 0) else 12 by rw [HPB.out, ← hN1]; rfl)
    have HN1 := Lib.hid hN1
    clear hN1
    have O1 := Lib.hid (Ob.fresh wr 59 [.int .i64 op, .int .i64 d, .int .i64 a, .int .i64 b, .int .i64 m])
    have B1 := Lib.hid (below_alloc HB.out (.cells #[.int .i64 op, .int .i64 d, .int .i64 a, .int .i64 b, .int .i64 m] 59))
    clear HB
    go_upto_region 4 with fail
    clear c0 c1 c2 c3 c4
    generalize wr.alloc (.cells #[.int .i64 op, .int .i64 d, .int .i64 a, .int .i64 b, .int .i64 m] 59) = w2 at O1 B1 ⊢
    generalize wr.heap.size = q at O1 ⊢
    have i0 := O1.out.c0
    have i1 := O1.out.c1
    have i2 := O1.out.c2
    have i3 := O1.out.c3
    have i4 := O1.out.c4
    go_wp2_with fail
    refine (HGO.out w2 (HT.out.below B1.out)).mono ?_
    rintro e w3 ⟨rfl, b3⟩
    have O3 := Lib.hid (O1.out.below b3 O1.out.lt)
    have B3 := Lib.hid (B1.out.trans (b3.mono B1.out.size))
    clear b3 O1 B1 i0 i1 i2 i3 i4 HGO
    have i0 := O3.out.c0
    have i1 := O3.out.c1
    have i2 := O3.out.c2
    have i3 := O3.out.c3
    have i4 := O3.out.c4
    go_wp2_with fail
    have B4 := Lib.hid (below_alloc B3.out (.cells #[.int .i64 op, .int .i64 d, .int .i64 a, .int .i64 b, .int .i64 m] 59))
    refine (HRO.out _ _ 1 (HT.out.below B4.out) (Sl.fresh w3 #[.int .i64 op, .int .i64 d, .int .i64 a, .int .i64 b, .int .i64 m] 59 (0, 0))).mono ?_
    rintro e w4 ⟨rfl, b4⟩
    have B5 := Lib.hid (B4.out.trans (b4.mono B4.out.size))
    clear b4 B4 B3 O3 i0 i1 i2 i3 i4 HRO HRG HG HT HS
    cases R
    · have HV2 := Lib.hid (show ((k : Int), (12 : Int)) = V by rw [← HSV.out, HPB.out]; rfl)
      go_wp2_with fail
      exact bodyPost_ret (v := .tuple #[.int .i64 k, .int .i64 12]) (by simp [results, Tryz.results74, go_sem]) rfl ⟨by rw [← HV2.out], B5.out⟩
    cases L
    · cases O
      · have HV2 := Lib.hid (show plFrom l (k + 1) (n - (k + 1)) = V by rw [← HSV.out, HPB.out, if_pos (rfl : true = true), if_neg (show ¬ (false = true ∧ ((k : Int) + D < 0 ∨ (n : Int) ≤ (k : Int) + D)) by simp), if_neg (show ¬ (false = true ∧ (k : Int) = N1) by simp)]; rfl)
        clear HSV HPB
        go_wp2_with fail
        exact ⟨⟨k + 1, by omega, by go_num, HV2.out, B5.out⟩, by simp [intOf]; omega⟩
      by_cases he : (k : Int) = N1
      · have HE2 : ((k : Int) == (n : Int) - 1) = true := by rw [HN1.out]; simpa using he
        have HEH := Lib.hid he
        clear he
        have HV2 := Lib.hid (show ((k : Int), (36 : Int)) = V by rw [← HSV.out, HPB.out, if_pos (rfl : true = true), if_neg (show ¬ (false = true ∧ ((k : Int) + D < 0 ∨ (n : Int) ≤ (k : Int) + D)) by simp), if_pos (⟨rfl, HEH.out⟩ : true = true ∧ (k : Int) = N1)]; rfl)
        clear HSV HPB
        go_wp2_with fail
        exact bodyPost_ret (v := .tuple #[.int .i64 k, .int .i64 36]) (by simp [results, Tryz.results74, go_sem]) rfl ⟨by rw [← HV2.out], B5.out⟩
      have HE2 : ((k : Int) == (n : Int) - 1) = false := by rw [HN1.out]; simpa using he
      have HV2 := Lib.hid (show plFrom l (k + 1) (n - (k + 1)) = V by rw [← HSV.out, HPB.out, if_pos (rfl : true = true), if_neg (show ¬ (false = true ∧ ((k : Int) + D < 0 ∨ (n : Int) ≤ (k : Int) + D)) by simp), if_neg (fun h : true = true ∧ (k : Int) = N1 => he h.2)]; rfl)
      clear HSV HPB
      go_wp2_with fail
      exact ⟨⟨k + 1, by omega, by go_num, HV2.out, B5.out⟩, by simp [intOf]; omega⟩
    by_cases h1 : (k : Int) + D < 0
    · have HV2 := Lib.hid (show ((k : Int), (30 : Int)) = V by rw [← HSV.out, HPB.out, if_pos (rfl : true = true), if_pos (⟨rfl, .inl h1⟩ : true = true ∧ ((k : Int) + D < 0 ∨ (n : Int) ≤ (k : Int) + D))]; rfl)
      clear HSV HPB
      go_wp2_with fail
      exact bodyPost_ret (v := .tuple #[.int .i64 k, .int .i64 30]) (by simp [results, Tryz.results74, go_sem]) rfl ⟨by rw [← HV2.out], B5.out⟩
    by_cases h2 : (n : Int) ≤ (k : Int) + D
    · have HV2 := Lib.hid (show ((k : Int), (30 : Int)) = V by rw [← HSV.out, HPB.out, if_pos (rfl : true = true), if_pos (⟨rfl, .inr h2⟩ : true = true ∧ ((k : Int) + D < 0 ∨ (n : Int) ≤ (k : Int) + D))]; rfl)
      clear HSV HPB
      go_wp2_with fail
      exact bodyPost_ret (v := .tuple #[.int .i64 k, .int .i64 30]) (by simp [results, Tryz.results74, go_sem]) rfl ⟨by rw [← HV2.out], B5.out⟩
    cases O
    · have HV2 := Lib.hid (show plFrom l (k + 1) (n - (k + 1)) = V by rw [← HSV.out, HPB.out, if_pos (rfl : true = true), if_neg (fun h : true = true ∧ ((k : Int) + D < 0 ∨ (n : Int) ≤ (k : Int) + D) => h.2.elim h1 h2), if_neg (show ¬ (false = true ∧ (k : Int) = N1) by simp)]; rfl)
      clear HSV HPB
      go_wp2_with fail
      exact ⟨⟨k + 1, by omega, by go_num, HV2.out, B5.out⟩, by simp [intOf]; omega⟩
    by_cases he : (k : Int) = N1
    · have HE2 : ((k : Int) == (n : Int) - 1) = true := by rw [HN1.out]; simpa using he
      have HEH := Lib.hid he
      clear he
      have HV2 := Lib.hid (show ((k : Int), (36 : Int)) = V by rw [← HSV.out, HPB.out, if_pos (rfl : true = true), if_neg (fun h : true = true ∧ ((k : Int) + D < 0 ∨ (n : Int) ≤ (k : Int) + D) => h.2.elim h1 h2), if_pos (⟨rfl, HEH.out⟩ : true = true ∧ (k : Int) = N1)]; rfl)
      clear HSV HPB
      go_wp2_with fail
      exact bodyPost_ret (v := .tuple #[.int .i64 k, .int .i64 36]) (by simp [results, Tryz.results74, go_sem]) rfl ⟨by rw [← HV2.out], B5.out⟩
    have HE2 : ((k : Int) == (n : Int) - 1) = false := by rw [HN1.out]; simpa using he
    have HV2 := Lib.hid (show plFrom l (k + 1) (n - (k + 1)) = V by rw [← HSV.out, HPB.out, if_pos (rfl : true = true), if_neg (fun h : true = true ∧ ((k : Int) + D < 0 ∨ (n : Int) ≤ (k : Int) + D) => h.2.elim h1 h2), if_neg (fun h : true = true ∧ (k : Int) = N1 => he h.2)]; rfl)
    clear HSV HPB
    go_wp2_with fail
    exact ⟨⟨k + 1, by omega, by go_num, HV2.out, B5.out⟩, by simp [intOf]; omega⟩
  have g1 : ¬ (k : Int) < (n : Int) := by omega
  have HV2 := Lib.hid (show ((0 : Int), (0 : Int)) = V by rw [← HV.out, show n - k = 0 by omega]; rfl)
  go_wp2_with fail
  exact bodyPost_ret (v := .tuple #[.int .i64 0, .int .i64 0]) (by simp [results, Tryz.results74, go_sem]) rfl ⟨by rw [← HV2.out], HB.out⟩

end Go.Proofs.YtikkmkomlajnfaaGreatDoor.Op
end
