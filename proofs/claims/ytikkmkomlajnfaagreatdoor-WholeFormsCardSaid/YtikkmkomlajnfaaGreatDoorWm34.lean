/-
  Layer 3: lines.Print. Conditions: those of each theorem.
  Layer 3: lines.register. Conditions: those of each theorem.
  Layer 3: lines.read, on an instruction's line. Conditions: those of each theorem.
-/
import Derived.Test.YtikkmkomlajnfaaGreatDoorWm01
import Derived.Test.YtikkmkomlajnfaaGreatDoorWm33
import Derived.Lib.AtoiErrMem
set_option linter.unusedVariables false
set_option linter.unusedSimpArgs false
section
namespace Go.Proofs.YtikkmkomlajnfaaGreatDoor.Wf
set_option maxRecDepth 100000
set_option maxHeartbeats 16000000
open Go.RowKit
open Go.Lib (itoa join)
open Go.Proofs.YtikkmkomlajnfaaGreatDoor.Op (InstV insc insVal inss ins0 ins_at rightV right_is RightI Frm insc_one nmO oI oI_nat)
open Go.Proofs.YtikkmkomlajnfaaGreatDoor.Jd (meas_lt2)

theorem itoa_small {n : Int} (h0 : 0 ≤ n) (h1 : n < 100) : (itoa n).length ≤ 2 := by
 unfold itoa
 rw [if_neg (by omega)]
 exact dg_len 1 n.toNat (by have : (10 : Nat) ^ (1 + 1) = 100 := rfl; omega)
theorem regW_small {n : Int} (h0 : 0 ≤ n) (h1 : n < 10) : (regW n).length ≤ 2 := by
 unfold regW itoa
 rw [if_neg (by omega), List.length_cons]
 have := dg_len 0 n.toNat (by have : (10 : Nat) ^ (0 + 1) = 10 := rfl; omega)
 omega
theorem name_len (i : InstV) : (nameO i).length ≤ 5 := by
 have key : ∀ y, y < 24 → (nmO y).data.toList.length ≤ 5 := by decide
 exact key (oI i.op) (by have := Op.oI_le i.op; omega)
theorem join_len2 : ∀ (ws : List (List UInt8)) (x : List UInt8), (join (x :: ws) [32]).length = x.length + (ws.map fun w => w.length + 1).sum
 | [], x => by rw [Lib.join_one]; simp
 | y :: r, x => by
   rw [join_two, List.length_append, List.length_cons, join_len2 r y, List.map_cons, List.sum_cons]
   omega
theorem line_len40 {i : InstV} (h : rightV i = true) (hm : -9223372036854775808 ≤ i.m ∧ i.m ≤ 9223372036854775807) : (lineO i).length + 1 ≤ 40 := by
 have r := right_is h
 have hn := name_len i
 have hb := r.b
 have h1 := itoa_small r.d0 (by have := r.d1; omega)
 have h2 := regW_small r.a0 (by have := r.a1; omega)
 have h4 := itoa_len hm.1 hm.2
 have hs : (wordO i 115).length ≤ 20 := by
  by_cases k : i.b = 8
  · rw [show wordO i 115 = itoa i.m from by unfold wordO; rw [if_neg (by decide), if_neg (by decide), if_neg (by decide), if_neg (fun e => e.2 k)]]; exact h4
  rw [show wordO i 115 = regW i.b from by unfold wordO; rw [if_neg (by decide), if_neg (by decide), if_neg (by decide), if_pos ⟨rfl, k⟩]]
  have := regW_small (n := i.b) (by omega) (by omega)
  omega
 have hd : (i.op ≤ 11 ∨ i.op = 13 ∨ i.op = 14) → (wordO i 100).length ≤ 2 := fun e => regW_small r.d0 (by have := r.d8 e; omega)
 have ha : (wordO i 97).length ≤ 2 := h2
 have hj : (wordO i 106).length ≤ 2 := h1
 have hi : (wordO i 110).length ≤ 20 := h4
 unfold lineO wordsO
 rw [join_len2]
 rcases op_class r.o0 r.o1 with c | c | c | c | c | c | c | c | c
 · rw [ord_1 c]
   have := hd (by omega)
   simp only [List.map_cons, List.map_nil, List.sum_cons, List.sum_nil]
   omega
 · rw [ord_2 c]
   simp only [List.map_cons, List.map_nil, List.sum_cons, List.sum_nil]
   omega
 · rw [ord_3 c]
   have := hd (by omega)
   simp only [List.map_cons, List.map_nil, List.sum_cons, List.sum_nil]
   omega
 · rw [ord_4 c]
   simp only [List.map_cons, List.map_nil, List.sum_cons, List.sum_nil]
   omega
 · rw [ord_5 c]
   simp only [List.map_cons, List.map_nil, List.sum_cons, List.sum_nil]
   omega
 · rw [ord_6 c]
   simp only [List.map_cons, List.map_nil, List.sum_cons, List.sum_nil]
   omega
 · rw [ord_7 c]
   simp only [List.map_cons, List.map_nil, List.sum_cons, List.sum_nil]
   omega
 · rw [ord_8 c]
   simp only [List.map_cons, List.map_nil, List.sum_cons, List.sum_nil]
   omega
 rw [ord_9 c]
 have := hd (by omega)
 simp only [List.map_cons, List.map_nil, List.sum_cons, List.sum_nil]
 omega
theorem print_len : ∀ (l : List InstV), (∀ i ∈ l, rightV i = true) → (∀ i ∈ l, -9223372036854775808 ≤ i.m ∧ i.m ≤ 9223372036854775807) → (printO l).length ≤ l.length * 40
 | [], _, _ => Nat.le_refl _
 | i :: r, h, hm => by
   have h1 := line_len40 (h i List.mem_cons_self) (hm i List.mem_cons_self)
   have ih := print_len r (fun j hj => h j (List.mem_cons_of_mem _ hj)) (fun j hj => hm j (List.mem_cons_of_mem _ hj))
   rw [print_cons, List.length_append, List.length_cons, List.length_cons]
   omega
theorem print_take {l : List InstV} {k : Nat} (h : k < l.length) : printO (l.take (k + 1)) = printO (l.take k) ++ (lineO (l.getD k ins0) ++ [10]) := by
 unfold printO
 rw [List.take_succ_eq_append_getElem h, List.flatMap_append, List.getD_eq_getElem?_getD, List.getElem?_eq_getElem h]
 simp
theorem bld_below {T e : TypeId} {B b : Nat} {bs : List Value} {w w' : World} (h : Lib.IsBuilder T e B b bs w) (hb : Below w.heap.size w w') : Lib.IsBuilder T e B b bs w' := by
 have key : ∀ p, Lib.BuilderAt T e B b p bs w → Lib.BuilderAt T e B b p bs w' := fun p ⟨h1, v, h2, h3, h4⟩ => ⟨h1, v, (hb.block _ (Array.getElem?_eq_some_iff.1 h2).1).trans h2, own_below h3 hb, h4⟩
 exact h.imp (key _) (key _)
theorem strCells_sB (l : List UInt8) : Lib.strCells (sB l) = Lib.byteCells l := by rw [Lib.strCells_eq, sB_list]

theorem Print_any (w : World) (l : List InstV) (A : Option Addr) (n c : Nat) (hn : n = l.length) (hnb : n * 40 ≤ 140737488355328) (him : ∀ i ∈ l, -9223372036854775808 ≤ i.m ∧ i.m ≤ 9223372036854775807) (hL : Lb w) (hs : Sl w A (inss l)) :
 Calls Tryz.prog 5 #[.slice A n c] w fun e w' => ((l.all rightV = false ∧ e = .returned (.tuple #[.string ⟨#[]⟩, .int .i64 12])) ∨ (l.all rightV = true ∧ e = .returned (.tuple #[.string (sB (printO l)), .int .i64 0]))) ∧ Below w.heap.size w w' := by
 have HRI := Lib.hid (Right_any w l A n c hn (by omega) hL.f hs)
 have HL := Lib.hid hL
 have HS := Lib.hid hs
 have HN := Lib.hid hn
 have HNB := Lib.hid hnb
 have HIM := Lib.hid him
 have HRA := Lib.hid (fun (h : l.all rightV = true) => List.all_eq_true.1 h)
 clear hL hs hn hnb him
 obtain ⟨rv, hrv⟩ : ∃ rv, l.all rightV = rv := ⟨_, rfl⟩
 rw [hrv] at HRI HRA ⊢
 clear hrv
 go_enter Tryz.func5, Tryz.ntmps5
 go_wp2_with fail
 refine HRI.out.mono ?_
 rintro e w1 ⟨rfl, b1⟩
 have B1 := Lib.hid b1
 clear b1
 cases rv
 · clear HRA
   go_wp2_with fail
   go_ret2
   exact ⟨rfl, B1.out⟩
 have HRA2 := Lib.hid (HRA.out rfl)
 clear HRA HRI
 go_upto_region 4 with fail
 have HB := Lib.hid (show Lib.IsBuilder 63 5 w.heap.size w1.heap.size [] (w1.alloc (.cells #[.pointer none, .slice none 0 0] 63)) from .inl ⟨B1.out.size, .slice none 0 0, heap_alloc_new w1 _, World.ownsRow_nil _ _ _ _, by intro e; cases e⟩)
 have B2 := Lib.hid (below_alloc B1.out (.cells #[.pointer none, .slice none 0 0] 63))
 have HQ := Lib.hid B1.out.size
 clear B1
 generalize w1.alloc (.cells #[.pointer none, .slice none 0 0] 63) = w2 at HB B2 ⊢
 generalize w1.heap.size = q4 at HB HQ ⊢
 go_wp2_with fail
 go_loopw [12] (fun i wr => ∃ k : Nat, k ≤ n ∧ i = .int .i64 k ∧ Lib.IsBuilder 63 5 w.heap.size q4 (Lib.byteCells (printO (l.take k))) wr ∧ Below w.heap.size w wr) (fun i _ => n - (intOf i).toNat)
 case atStart => exact ⟨0, Nat.zero_le _, rfl, HB.out, B2.out⟩
 case round =>
  obtain ⟨k, hk, rfl, hb, hbl⟩ := hrel
  clear HB B2
  have HB := Lib.hid hb
  have BL := Lib.hid hbl
  clear hb hbl
  by_cases hlt : k < n
  · have g1 : (k : Int) < (n : Int) := by omega
    have g0 : (0 : Int) ≤ (k : Int) := by omega
    have g4 : wrap64 ((k : Int) + 1) = (k : Int) + 1 := by have := HNB.out; unfold wrap64; omega
    have hkl : k < l.length := HN.out ▸ hlt
    have HPL := Lib.hid (show (printO (l.take (k + 1))).length ≤ 140737488355328 from by
     have h1 := print_len (l.take (k + 1)) (fun i hi => HRA2.out i (List.mem_of_mem_take hi)) (fun i hi => HIM.out i (List.mem_of_mem_take hi))
     have h2 := HNB.out
     rw [List.length_take] at h1
     omega)
    have hmem : l.getD k ins0 ∈ l := by rw [List.getD_eq_getElem?_getD, List.getElem?_eq_getElem hkl]; exact List.getElem_mem hkl
    have HRX := Lib.hid (HRA2.out _ hmem)
    have HIX := Lib.hid (HIM.out _ hmem)
    have HTK := Lib.hid (print_take hkl)
    obtain ⟨b, o, rfl, hbl, hc⟩ := ins_at (HS.out.below BL.out) (Nat.lt_of_le_of_lt (Nat.zero_le _) hkl)
    obtain ⟨c0, c1, c2, c3, c4⟩ := hc k hkl
    clear hc hkl hmem hbl
    rw [HTK.out] at HPL
    generalize l.getD k ins0 = ii at c0 c1 c2 c3 c4 HRX HIX HTK HPL
    have HLN := Lib.hid (fun w (hL : Lb w) => line_any w ii HRX.out HIX.out hL)
    have hll := line_len40 HRX.out HIX.out
    have hs2 : ¬ 9223372036854775807 < (lineO ii).length + 1 := by omega
    have HSA := Lib.hid (show sB (lineO ii) ++ (⟨#[10]⟩ : ByteArray) = sB (lineO ii ++ [10]) from sB_app (lineO ii) [10])
    have HSZ := Lib.hid (sB_size (lineO ii))
    rw [← HSZ.out] at hs2
    clear hll HRX HIX
    obtain ⟨op, d, a, s, m⟩ := ii
    unfold insVal at HLN
    dsimp only at c0 c1 c2 c3 c4 HLN
    generalize lineO ⟨op, d, a, s, m⟩ = X at HLN HSA hs2 HTK HPL HSZ
    go_upto_region 7 with fail
    clear c0 c1 c2 c3 c4
    have O6 := Lib.hid (Ob.fresh wr 59 [.int .i64 op, .int .i64 d, .int .i64 a, .int .i64 s, .int .i64 m])
    have B6 := Lib.hid (below_alloc BL.out (.cells #[.int .i64 op, .int .i64 d, .int .i64 a, .int .i64 s, .int .i64 m] 59))
    have HB6 := Lib.hid (bld_below HB.out (below_alloc (Below.refl _ _) (.cells #[.int .i64 op, .int .i64 d, .int .i64 a, .int .i64 s, .int .i64 m] 59)))
    clear BL HB
    generalize wr.alloc (.cells #[.int .i64 op, .int .i64 d, .int .i64 a, .int .i64 s, .int .i64 m] 59) = w6 at O6 B6 HB6 ⊢
    generalize wr.heap.size = q6 at O6 ⊢
    have i0_ := O6.out.c0
    have i1_ := O6.out.c1
    have i2_ := O6.out.c2
    have i3_ := O6.out.c3
    have i4_ := O6.out.c4
    go_wp2_with fail
    clear i0_ i1_ i2_ i3_ i4_
    refine (HLN.out w6 (HL.out.below B6.out)).mono ?_
    rintro e w7 ⟨rfl, b7⟩
    have B7 := Lib.hid (B6.out.trans (b7.mono B6.out.size))
    have HB7 := Lib.hid (bld_below HB6.out b7)
    clear b7 B6 HB6 HLN O6
    go_wp2_with fail
    rw [HSA.out]
    refine (WriteString_any w.heap.size q4 _ (sB (X ++ [10])) w7 HB7.out (by rw [Lib.byteCells_length, sB_size, ← List.length_append]; exact HPL.out) B7.out.size).mono ?_
    rintro e w8 ⟨rfl, hb8, b8⟩
    rw [strCells_sB, ← Lib.byteCells_append, ← HTK.out] at hb8
    have HB8 := Lib.hid (show Lib.IsBuilder 63 5 w.heap.size q4 (Lib.byteCells (printO (l.take (k + 1)))) w8 from .inr hb8)
    have B8 := Lib.hid (B7.out.trans b8)
    clear hb8 b8
    go_wp2_with fail
    exact ⟨⟨k + 1, by omega, by first | exact congrArg (Value.int .i64) (g4.trans (by push_cast; rfl)) | go_num, HB8.out, B8.out⟩, by first | exact meas_lt2 hlt | (rw [g4]; exact meas_lt2 hlt) | (simp [intOf]; omega)⟩
  obtain rfl : n = k := by omega
  have g1 : ¬ (n : Int) < (n : Int) := by omega
  rw [show l.take n = l from List.take_of_length_le (by have := HN.out; omega)] at HB
  go_wp2_with fail
  refine (Tryz.Builder_String_any w.heap.size q4 (printO l) wr HB.out BL.out.size).mono ?_
  rintro e w7 ⟨rfl, b7⟩
  have B7 := Lib.hid (BL.out.trans b7)
  clear b7
  go_wp2_with fail
  go_ret2
  exact ⟨rfl, B7.out⟩
end Go.Proofs.YtikkmkomlajnfaaGreatDoor.Wf
end

section
namespace Go.Proofs.YtikkmkomlajnfaaGreatDoor.Wf
set_option maxRecDepth 100000
set_option maxHeartbeats 4000000
open Go.RowKit
open Go.Lib (itoa join)
open Go.Proofs.YtikkmkomlajnfaaGreatDoor.Op (InstV insc insVal rightV right_is RightI Frm insc_one nmO oI oI_nat)

theorem register_reg (w : World) (n : Int) (h0 : 0 ≤ n) (h1 : n < 8) :
 Calls Tryz.prog 46 #[.string (sB (regW n))] w fun e w' => e = .returned (.tuple #[.int .i64 n, .bool true]) ∧ w = w' := by
 have : n = 0 ∨ n = 1 ∨ n = 2 ∨ n = 3 ∨ n = 4 ∨ n = 5 ∨ n = 6 ∨ n = 7 := by omega
 have HE : sB (regW n) = ⟨#[114, UInt8.ofNat (48 + n.toNat)]⟩ := by unfold regW; rw [reg_digit h0 h1]; rfl
 clear h0 h1
 rw [HE]
 clear HE
 rcases this with rfl | rfl | rfl | rfl | rfl | rfl | rfl | rfl
 · rw [show UInt8.ofNat (48 + (0 : Int).toNat) = 48 from rfl]
   go_enter Tryz.func46, Tryz.ntmps46
   go_wp2_with fail
   go_ret2
   exact ⟨rfl, rfl⟩
 · rw [show UInt8.ofNat (48 + (1 : Int).toNat) = 49 from rfl]
   go_enter Tryz.func46, Tryz.ntmps46
   go_wp2_with fail
   go_ret2
   exact ⟨rfl, rfl⟩
 · rw [show UInt8.ofNat (48 + (2 : Int).toNat) = 50 from rfl]
   go_enter Tryz.func46, Tryz.ntmps46
   go_wp2_with fail
   go_ret2
   exact ⟨rfl, rfl⟩
 · rw [show UInt8.ofNat (48 + (3 : Int).toNat) = 51 from rfl]
   go_enter Tryz.func46, Tryz.ntmps46
   go_wp2_with fail
   go_ret2
   exact ⟨rfl, rfl⟩
 · rw [show UInt8.ofNat (48 + (4 : Int).toNat) = 52 from rfl]
   go_enter Tryz.func46, Tryz.ntmps46
   go_wp2_with fail
   go_ret2
   exact ⟨rfl, rfl⟩
 · rw [show UInt8.ofNat (48 + (5 : Int).toNat) = 53 from rfl]
   go_enter Tryz.func46, Tryz.ntmps46
   go_wp2_with fail
   go_ret2
   exact ⟨rfl, rfl⟩
 · rw [show UInt8.ofNat (48 + (6 : Int).toNat) = 54 from rfl]
   go_enter Tryz.func46, Tryz.ntmps46
   go_wp2_with fail
   go_ret2
   exact ⟨rfl, rfl⟩
 rw [show UInt8.ofNat (48 + (7 : Int).toNat) = 55 from rfl]
 go_enter Tryz.func46, Tryz.ntmps46
 go_wp2_with fail
 go_ret2
 exact ⟨rfl, rfl⟩
theorem itoa_head (n : Int) : ∃ c r, itoa n = c :: r ∧ c ≠ 114 := by
 unfold itoa
 split
 · exact ⟨45, _, rfl, by decide⟩
 obtain ⟨c, r, hc⟩ := dg_cons n.toNat
 have := dg_all n.toNat c (by rw [hc]; exact List.mem_cons_self)
 exact ⟨c, r, hc, fun e => by rw [e] at this; exact absurd this.2 (by decide)⟩
theorem register_not (w : World) (z : Int) (hz : (itoa z).length ≤ 20) :
 Calls Tryz.prog 46 #[.string (sB (itoa z))] w fun e w' => e = .returned (.tuple #[.int .i64 0, .bool false]) ∧ w = w' := by
 obtain ⟨c, r, hr, hc⟩ := itoa_head z
 rw [hr] at hz ⊢
 have hc2 : ((c.toNat : Int) == 114) = false := by rw [beq_eq_false_iff_ne]; exact fun h => hc (UInt8.toNat_inj.1 (show c.toNat = 114 by omega))
 have hc3 : ((c.toNat : Int) != 114) = true := by simpa using hc2
 clear hr hc
 match r, hz with
 | [], _ =>
   rw [show sB [c] = ⟨#[c]⟩ from rfl]
   go_enter Tryz.func46, Tryz.ntmps46
   go_wp2_with fail
   go_ret2
   exact ⟨rfl, rfl⟩
 | [b], _ =>
   rw [show sB [c, b] = ⟨#[c, b]⟩ from rfl]
   have hx : ((({ data := #[c, b] } : ByteArray)[0]'(by exact Nat.zero_lt_succ 1)).toNat : Int) = (c.toNat : Int) := rfl
   go_enter Tryz.func46, Tryz.ntmps46
   go_wp2_with fail
   go_ret2
   exact ⟨rfl, rfl⟩
 | b :: b' :: r, hz =>
   have hsz := sB_size (c :: b :: b' :: r)
   have hs2 : (((sB (c :: b :: b' :: r)).size : Int) == 2) = false := by rw [beq_eq_false_iff_ne, hsz]; simp; omega
   have hs3 : (((sB (c :: b :: b' :: r)).size : Int) != 2) = true := by simpa using hs2
   clear hz hsz
   generalize sB (c :: b :: b' :: r) = X at hs2 hs3
   go_enter Tryz.func46, Tryz.ntmps46
   go_wp2_with fail
   go_ret2
   exact ⟨rfl, rfl⟩
end Go.Proofs.YtikkmkomlajnfaaGreatDoor.Wf
end

section
namespace Go.Proofs.YtikkmkomlajnfaaGreatDoor.Wf
set_option maxRecDepth 100000
set_option maxHeartbeats 32000000
open Go.RowKit
open Go.Lib (itoa join)
open Go.Proofs.YtikkmkomlajnfaaGreatDoor.Op (InstV insc insVal rightV right_is RightI Frm insc_one nmO oI oI_nat right1_any)
open Go.Proofs.YtikkmkomlajnfaaGreatDoor.Jd (meas_lt2)

/-- the result's place, what is read so far, the words -/
structure RdL (w0 w : World) (q2 q8 gw : Nat) (ws : List (List UInt8)) (j : InstV) : Prop where
 o2 : Ob w q2 59 [.int .i64 0, .int .i64 0, .int .i64 0, .int .i64 0, .int .i64 0]
 o8 : Ob w q8 59 (insc j)
 ws : Ob w gw 9 (strs ws)
 b : Below w0.heap.size w0 w
 l2 : w0.heap.size ≤ q2
 l8 : w0.heap.size ≤ q8
 n : q2 ≠ q8
section
variable {w0 w w' : World} {q2 q8 gw : Nat} {ws : List (List UInt8)} {j : InstV}
theorem RdL.below (h : RdL w0 w q2 q8 gw ws j) (hb : Below w.heap.size w w') : RdL w0 w' q2 q8 gw ws j :=
 ⟨h.o2.below hb h.o2.lt, h.o8.below hb h.o8.lt, h.ws.below hb h.ws.lt, h.b.trans (hb.mono h.b.size), h.l2, h.l8, h.n⟩
theorem RdL.drew (h : RdL w0 w q2 q8 gw ws j) : RdL w0 w.drew q2 q8 gw ws j := h.below (below_drewN (Below.refl _ _) 1)
theorem RdL.put (h : RdL w0 w q2 q8 gw ws j) {i : Nat} {u : Value} {j' : InstV} (e : (insc j).set i u = insc j') : RdL w0 (w.setCell ⟨q8, i, none⟩ u) q2 q8 gw ws j' :=
 ⟨h.o2.far (p := ⟨q8, i, none⟩) h.n _, e ▸ h.o8.set_ i u, h.ws.far (p := ⟨q8, i, none⟩) (h.ws.ne_ h.o8 (by decide)) _, h.b.setCell (p := ⟨q8, i, none⟩) h.l8 _, h.l2, h.l8, h.n⟩
end
theorem ord_in (op : Int) : ∀ c ∈ ordO op, c = 100 ∨ c = 97 ∨ c = 106 ∨ c = 115 ∨ c = 110 := by
 unfold ordO
 repeat' split
 all_goals decide
theorem ord_d {op : Int} (h0 : 0 ≤ op) (h1 : op < 23) (h : (100 : UInt8) ∈ ordO op) : op ≤ 11 ∨ op = 13 ∨ op = 14 := by
 rcases op_class h0 h1 with c | c | c | c | c | c | c | c | c
 · omega
 · rw [ord_2 c] at h; exact absurd h (by decide)
 · omega
 · rw [ord_4 c] at h; exact absurd h (by decide)
 · rw [ord_5 c] at h; exact absurd h (by decide)
 · rw [ord_6 c] at h; exact absurd h (by decide)
 · rw [ord_7 c] at h; exact absurd h (by decide)
 · rw [ord_8 c] at h; exact absurd h (by decide)
 omega
theorem ord_pos (op : Int) : 1 ≤ (ordO op).length := by
 unfold ordO
 repeat' split
 all_goals decide
theorem split_line (i : InstV) : ((Lib.splitB ⟨#[32]⟩ 0 (Lib.countB (sB (lineO i)) ⟨#[32]⟩) (sB (lineO i))).map Value.string) = strs (nameO i :: wordsO i) ∧ Lib.countB (sB (lineO i)) ⟨#[32]⟩ = (ordO i.op).length := by
 have hc : Lib.countB (sB (lineO i)) ⟨#[32]⟩ = (ordO i.op).length := by
  show Lib.count (sB (lineO i)).data.toList [32] = _
  rw [sB_list]
  exact line_count i
 refine ⟨?_, hc⟩
 rw [hc]
 have h := Lib.splitB_data ⟨#[32]⟩ 0 (ordO i.op).length (sB (lineO i))
 rw [sB_list, show (⟨#[32]⟩ : ByteArray).data.toList = [32] from rfl, line_split] at h
 have e : ∀ (xs : List ByteArray) (ys : List (List UInt8)), xs.map (·.data.toList) = ys → xs.map Value.string = strs ys := by
  intro xs ys he
  subst he
  rw [strs, List.map_map]
  exact List.map_congr_left fun x _ => by rw [Function.comp, sB_data]
 exact e _ _ h

theorem read_any (w : World) (i : InstV) (hi : rightV i = true) (hm : -9223372036854775808 ≤ i.m ∧ i.m ≤ 9223372036854775807) (hL : Lb w) :
 Calls Tryz.prog 21 #[.string (sB (lineO i))] w fun e w' => e = .returned (.tuple #[insVal i, .bool true]) ∧ Below w.heap.size w w' := by
 have HLL := Lib.hid (line_len hi hm)
 have HRI := Lib.hid (right_is hi)
 have HM := Lib.hid hm
 have HL := Lib.hid hL
 have HOL := Lib.hid (ord_len i.op)
 have HOI := Lib.hid (ord_in i.op)
 have HOD := Lib.hid (fun h => ord_d (right_is hi).o0 (right_is hi).o1 h)
 have HSP := Lib.hid (split_line i)
 have HRS := Lib.hid (fun k h => @readK_succ i k h)
 have HRA := Lib.hid (read_all hi)
 have HRT := Lib.hid (fun w A c ht hs => right1_any w i A c ht hs)
 have HLN := Lib.hid (fun w (hL : Lb w) => line_any w i hi hm hL)
 have HFI := Lib.hid (fun w ht => Find_any w (oI i.op) (by have h0 := (right_is hi).o0; have h1 := (right_is hi).o1; unfold oI; rw [if_pos ⟨h0, h1⟩]; omega) ht)
 have HOI2 := Lib.hid (show ((oI i.op : Nat) : Int) = i.op by have h0 := (right_is hi).o0; have h1 := (right_is hi).o1; unfold oI; rw [if_pos ⟨h0, h1⟩]; omega)
 have HNM := Lib.hid (show sB (nameO i) = nmO (oI i.op) from sB_data _)
 have B0 := Lib.hid (Below.refl w.heap.size w)
 obtain ⟨m1, hm1⟩ := hL.m
 have HM1 := Lib.hid hm1
 rw [hi] at HRT
 clear hm hL hi hm1
 have HSP2 := Lib.hid (fun w' (hm : w'.cell? ⟨1, 0, none⟩ = some (.int .i64 m1)) => Tryz.strings_Split (sB (lineO i)) ⟨#[32]⟩ m1 w' (by rw [sB_size]; have := HLL.out; omega) hm (Nat.le_refl _))
 rw [HSP.out.1, HSP.out.2] at HSP2
 obtain ⟨LO, hLO⟩ : ∃ LO, lineO i = LO := ⟨_, rfl⟩
 rw [hLO] at HLN HSP2 ⊢
 clear HSP HLL hLO
 go_enter Tryz.func21, Tryz.ntmps21
 go_upto_region 1 with fail
 have O2 := Lib.hid (Ob.fresh w 59 [.int .i64 0, .int .i64 0, .int .i64 0, .int .i64 0, .int .i64 0])
 have B1 := Lib.hid (below_alloc (B0.out) (.cells #[.int .i64 0, .int .i64 0, .int .i64 0, .int .i64 0, .int .i64 0] 59))
 have Hq2 := Lib.hid (show w.heap.size ≤ w.heap.size by have := B0.out.size; omega)
 clear B0
 generalize (w.alloc (.cells #[.int .i64 0, .int .i64 0, .int .i64 0, .int .i64 0, .int .i64 0] 59)) = w1 at O2 B1 ⊢
 obtain ⟨q2, hq2⟩ : ∃ q2, w.heap.size = q2 := ⟨_, rfl⟩
 have Hq2 := Lib.hid (Nat.le_of_eq hq2)
 rw [hq2] at O2 ⊢
 clear hq2
 go_wp2_with fail
 refine (HSP2.out w1 (by rw [B1.out.cell (cell_lt HM1.out)]; exact HM1.out)).mono ?_
 rintro e w2 ⟨rfl, rfl⟩
 have OW := Lib.hid (Ob.fresh w1 9 (strs (nameO i :: wordsO i)))
 have O2b := Lib.hid (O2.out.alloc (.cells (strs (nameO i :: wordsO i)).toArray 9))
 have B2 := Lib.hid (below_alloc B1.out (.cells (strs (nameO i :: wordsO i)).toArray 9))
 clear O2 B1 HSP2
 generalize w1.alloc (.cells (strs (nameO i :: wordsO i)).toArray 9) = w2 at OW O2b B2 ⊢
 generalize w1.heap.size = gw at OW ⊢
 have c0 : w2.cell? ⟨gw, 0, none⟩ = some (.string (nmO (oI i.op))) := by rw [← HNM.out]; exact OW.out.cell 0
 obtain ⟨N, hN⟩ : ∃ N, (ordO i.op).length = N := ⟨_, rfl⟩
 have HN := Lib.hid hN
 rw [hN] at HOL HRS HRA ⊢
 clear hN
 have gN : (0 : Int) < (N : Int) + 1 := by omega
 go_wp2_with fail
 clear c0
 refine (HFI.out w2 (HL.out.f.below B2.out)).mono ?_
 rintro e w3 ⟨rfl, b3⟩
 rw [HOI2.out]
 have B3 := Lib.hid (B2.out.trans (b3.mono B2.out.size))
 have OW3 := Lib.hid (OW.out.below b3 OW.out.lt)
 have O23 := Lib.hid (O2b.out.below b3 O2b.out.lt)
 clear b3 OW O2b B2
 go_wp2_with fail
 refine (order_any w3 i.op HRI.out.o0 HRI.out.o1).mono ?_
 rintro e w4 ⟨rfl, rfl⟩
 have hsz := sB_size (ordO i.op)
 rw [HN.out] at hsz
 have HSG := Lib.hid (fun k h => sB_get (ordO i.op) k h)
 generalize sB (ordO i.op) = S at hsz HSG ⊢
 have gsz : ((S.size : Nat) : Int) = (N : Int) := by rw [hsz]
 have gw1 : wrap64 ((N : Int) + 1) = (N : Int) + 1 := by have := HOL.out; unfold wrap64; omega
 have hN1 : ¬ N = 0 := by have := HN.out; have := ord_pos i.op; omega
 go_upto_region 7 with fail
 have I7 := Lib.hid (show RdL w (w3.alloc (.cells #[.int .i64 i.op, .int .i64 0, .int .i64 0, .int .i64 0, .int .i64 0] 59)) q2 w3.heap.size gw (nameO i :: wordsO i) (readK i 0) from
  ⟨O23.out.alloc _, Ob.fresh w3 59 [.int .i64 i.op, .int .i64 0, .int .i64 0, .int .i64 0, .int .i64 0], OW3.out.alloc _, below_alloc B3.out _, Hq2.out, B3.out.size, Nat.ne_of_lt O23.out.lt⟩)
 clear O23 OW3 B3 Hq2
 generalize w3.alloc (.cells #[.int .i64 i.op, .int .i64 0, .int .i64 0, .int .i64 0, .int .i64 0] 59) = w7 at I7 ⊢
 generalize w3.heap.size = q8 at I7 ⊢
 have gc1 : (1 : Int) ≤ (N : Int) + 1 := by omega
 go_wp2_with fail
 clear gw1
 go_loopw [42] (fun v wr => ∃ k : Nat, k ≤ N ∧ v = .int .i64 k ∧ RdL w wr q2 q8 gw (nameO i :: wordsO i) (readK i k)) (fun v _ => N - (intOf v).toNat)
 case atStart => exact ⟨0, Nat.zero_le _, rfl, I7.out⟩
 case round =>
  clear I7
  obtain ⟨k, hk, rfl, hrd⟩ := hrel
  have RD := Lib.hid hrd
  clear hrd
  by_cases hlt : k < N
  · have l1 : (k : Int) < (N : Int) := by omega
    have l0 : (0 : Int) ≤ (k : Int) := by omega
    have l2 : k < S.size := by omega
    have l3 : (k : Int) < (S.size : Int) := by omega
    have g4 : wrap64 ((k : Int) + 1) = (k : Int) + 1 := by have := HOL.out; unfold wrap64; omega
    have hx := HSG.out k l2
    have hko : k < (ordO i.op).length := by rw [HN.out]; exact hlt
    have hmem : (ordO i.op).getD k 0 ∈ ordO i.op := by rw [List.getD_eq_getElem?_getD, List.getElem?_eq_getElem hko]; exact List.getElem_mem hko
    have HIN := HOI.out _ hmem
    have HDD := Lib.hid (fun e : (ordO i.op).getD k 0 = 100 => HOD.out (e ▸ hmem))
    have HRK := Lib.hid (HRS.out k hlt)
    have cw : wr.cell? ⟨gw, 1 + k, none⟩ = some (.string (sB (wordO i ((ordO i.op).getD k 0)))) := by
     rw [RD.out.ws.cell, strs, List.getElem?_map, show 1 + k = k + 1 by omega, List.getElem?_cons_succ]
     unfold wordsO
     rw [List.getElem?_map, List.getD_eq_getElem?_getD, List.getElem?_eq_getElem hko]
     rfl
    clear hko hmem
    generalize (ordO i.op).getD k 0 = f at hx HIN HDD HRK cw
    generalize readK i k = jj at RD HRK
    obtain ⟨v0, v1, v2, v3, v4⟩ := jj
    clear HOI HOD HSG HRA HFI HOI2 HNM HRT HLN HRS
    rcases HIN with rfl | rfl | rfl | rfl | rfl
    · obtain ⟨hri0, hri1, hri2, hri3, hri4, hri5, hri6, _, _, _, _, _⟩ := HRI.out
      obtain ⟨hm0, hm1⟩ := HM.out
      have hd8 := HRI.out.d8 (HDD.out rfl)
      have hxl : (regW i.d).length ≤ 21 := by have := regW_small (n := i.d) (by omega) (by omega); omega
      have hw : wordO i 100 = regW i.d := rfl
      rw [hw] at cw
      clear hw
      have hx2 : ((S[k].toNat : Nat) : Int) = 100 := by rw [hx]; rfl
      clear hx
      have PX := Lib.hid (reg_syntax (n := i.d) (by omega) (by omega))
      have RX := Lib.hid (fun w => register_reg w i.d (by omega) (by omega))
      generalize regW i.d = X at cw PX RX hxl
      have HXL := Lib.hid hxl
      clear hxl
      go_wp2_with fail
      clear cw
      refine (RX.out wr).mono ?_
      rintro e w8 ⟨rfl, rfl⟩
      go_wp2_with fail
      obtain ⟨tp, pp, he⟩ := (HL.out.below RD.out.b).e
      refine (Tryz.strconv_ParseInt_10_at64_syntax (sB X) (by rw [sB_size]; have := HXL.out; omega) (by rw [sB_list]; exact PX.out) (.iface tp pp) wr he (.inr ⟨tp, pp, rfl⟩)).mono ?_
      rintro e w9 ⟨NN, rfl, -, -, b9⟩
      have R9 := Lib.hid (RD.out.below b9)
      clear b9 he RD
      have z1 : w9.cell? ⟨q8, 1, none⟩ = some (.int .i64 v1) := R9.out.o8.cell 1
      have zf := R9.out.o8.frozen
      go_wp2_with fail
      have RF := (RdL.put (i := 1) (u := .int .i64 i.d) (j' := ⟨v0, i.d, v2, v3, v4⟩) R9.out rfl)
      have hfin : RdL w (w9.setCell ⟨q8, 1, none⟩ (.int .i64 i.d)) q2 q8 gw (nameO i :: wordsO i) (readK i (k + 1)) := by rw [HRK.out]; exact RF
      exact ⟨⟨k + 1, by omega, by first | exact congrArg (Value.int .i64) (g4.trans (by push_cast; rfl)) | go_num, hfin⟩, by first | exact meas_lt2 hlt | (rw [g4]; exact meas_lt2 hlt) | (simp [intOf]; omega)⟩
    · obtain ⟨hri0, hri1, hri2, hri3, hri4, hri5, hri6, _, _, _, _, _⟩ := HRI.out
      obtain ⟨hm0, hm1⟩ := HM.out
      have hxl : (regW i.a).length ≤ 21 := by have := regW_small (n := i.a) (by omega) (by omega); omega
      have hw : wordO i 97 = regW i.a := rfl
      rw [hw] at cw
      clear hw
      have hx2 : ((S[k].toNat : Nat) : Int) = 97 := by rw [hx]; rfl
      clear hx
      have PX := Lib.hid (reg_syntax (n := i.a) (by omega) (by omega))
      have RX := Lib.hid (fun w => register_reg w i.a (by omega) (by omega))
      generalize regW i.a = X at cw PX RX hxl
      have HXL := Lib.hid hxl
      clear hxl
      go_wp2_with fail
      clear cw
      refine (RX.out wr).mono ?_
      rintro e w8 ⟨rfl, rfl⟩
      go_wp2_with fail
      obtain ⟨tp, pp, he⟩ := (HL.out.below RD.out.b).e
      refine (Tryz.strconv_ParseInt_10_at64_syntax (sB X) (by rw [sB_size]; have := HXL.out; omega) (by rw [sB_list]; exact PX.out) (.iface tp pp) wr he (.inr ⟨tp, pp, rfl⟩)).mono ?_
      rintro e w9 ⟨NN, rfl, -, -, b9⟩
      have R9 := Lib.hid (RD.out.below b9)
      clear b9 he RD
      have z2 : w9.cell? ⟨q8, 2, none⟩ = some (.int .i64 v2) := R9.out.o8.cell 2
      have zf := R9.out.o8.frozen
      go_wp2_with fail
      have RF := (RdL.put (i := 2) (u := .int .i64 i.a) (j' := ⟨v0, v1, i.a, v3, v4⟩) R9.out rfl)
      have hfin : RdL w (w9.setCell ⟨q8, 2, none⟩ (.int .i64 i.a)) q2 q8 gw (nameO i :: wordsO i) (readK i (k + 1)) := by rw [HRK.out]; exact RF
      exact ⟨⟨k + 1, by omega, by first | exact congrArg (Value.int .i64) (g4.trans (by push_cast; rfl)) | go_num, hfin⟩, by first | exact meas_lt2 hlt | (rw [g4]; exact meas_lt2 hlt) | (simp [intOf]; omega)⟩
    · obtain ⟨hri0, hri1, hri2, hri3, hri4, hri5, hri6, _, _, _, _, _⟩ := HRI.out
      obtain ⟨hm0, hm1⟩ := HM.out
      have gwd : wrap64 i.d = i.d := by unfold wrap64; omega
      have hw : wordO i 106 = itoa i.d := rfl
      rw [hw] at cw
      clear hw
      have hx2 : ((S[k].toNat : Nat) : Int) = 106 := by rw [hx]; rfl
      clear hx
      have hil := itoa_len (n := i.d) (by omega) (by omega)
      have PX := Lib.hid (parse_itoa (n := i.d) (by omega) (by omega))
      have RX := Lib.hid (fun w => register_not w i.d hil)
      generalize itoa i.d = X at cw PX RX hil
      have HXL := Lib.hid (show X.length ≤ 21 by omega)
      clear hil
      go_wp2_with fail
      clear cw
      refine (RX.out wr).mono ?_
      rintro e w8 ⟨rfl, rfl⟩
      go_wp2_with fail
      refine (Tryz.strconv_ParseInt_10_at64_ok (sB X) (by rw [sB_size]; have := HXL.out; omega) i.d (by rw [sB_list]; exact PX.out) wr).mono ?_
      rintro e w9 ⟨rfl, hw9⟩
      have b9 : Below wr.heap.size wr w9 := by
       rcases hw9 with rfl | ⟨tt, rfl⟩
       · exact Below.refl _ _
       exact Lib.bytesWorld_below wr 5 tt
      have R9 := Lib.hid (RD.out.below b9)
      clear b9 RD hw9
      have z1 : w9.cell? ⟨q8, 1, none⟩ = some (.int .i64 v1) := R9.out.o8.cell 1
      have zf := R9.out.o8.frozen
      go_wp2_with fail
      have RF := (RdL.put (i := 1) (u := .int .i64 i.d) (j' := ⟨v0, i.d, v2, v3, v4⟩) R9.out rfl)
      have hfin : RdL w (w9.setCell ⟨q8, 1, none⟩ (.int .i64 i.d)) q2 q8 gw (nameO i :: wordsO i) (readK i (k + 1)) := by rw [HRK.out]; exact RF
      exact ⟨⟨k + 1, by omega, by first | exact congrArg (Value.int .i64) (g4.trans (by push_cast; rfl)) | go_num, hfin⟩, by first | exact meas_lt2 hlt | (rw [g4]; exact meas_lt2 hlt) | (simp [intOf]; omega)⟩
    · by_cases h8 : i.b = 8
      · obtain ⟨hri0, hri1, hri2, hri3, hri4, hri5, hri6, _, _, _, _, _⟩ := HRI.out
        obtain ⟨hm0, hm1⟩ := HM.out
        have hw : wordO i 115 = itoa i.m := by unfold wordO; rw [if_neg (by decide), if_neg (by decide), if_neg (by decide), if_neg (fun e => e.2 h8)]
        rw [hw] at cw
        clear hw
        have hx2 : ((S[k].toNat : Nat) : Int) = 115 := by rw [hx]; rfl
        clear hx
        have hil := itoa_len (n := i.m) (by omega) (by omega)
        have PX := Lib.hid (parse_itoa (n := i.m) (by omega) (by omega))
        have RX := Lib.hid (fun w => register_not w i.m hil)
        generalize itoa i.m = X at cw PX RX hil
        have HXL := Lib.hid (show X.length ≤ 21 by omega)
        clear hil
        go_wp2_with fail
        clear cw
        refine (RX.out wr).mono ?_
        rintro e w8 ⟨rfl, rfl⟩
        go_wp2_with fail
        refine (Tryz.strconv_ParseInt_10_at64_ok (sB X) (by rw [sB_size]; have := HXL.out; omega) i.m (by rw [sB_list]; exact PX.out) wr).mono ?_
        rintro e w9 ⟨rfl, hw9⟩
        have b9 : Below wr.heap.size wr w9 := by
         rcases hw9 with rfl | ⟨tt, rfl⟩
         · exact Below.refl _ _
         exact Lib.bytesWorld_below wr 5 tt
        have R9 := Lib.hid (RD.out.below b9)
        clear b9 RD hw9
        have z3 : w9.cell? ⟨q8, 3, none⟩ = some (.int .i64 v3) := R9.out.o8.cell 3
        have z4 : w9.cell? ⟨q8, 4, none⟩ = some (.int .i64 v4) := R9.out.o8.cell 4
        have zf := R9.out.o8.frozen
        go_wp2_with fail
        have RF := (RdL.put (i := 4) (u := .int .i64 i.m) (j' := ⟨v0, v1, v2, 8, i.m⟩) (RdL.put (i := 3) (u := .int .i64 8) (j' := ⟨v0, v1, v2, 8, v4⟩) R9.out rfl) rfl)
        have hfin : RdL w ((w9.setCell ⟨q8, 3, none⟩ (.int .i64 8)).setCell ⟨q8, 4, none⟩ (.int .i64 i.m)) q2 q8 gw (nameO i :: wordsO i) (readK i (k + 1)) := by rw [HRK.out]; exact (show putF i 115 ⟨v0, v1, v2, v3, v4⟩ = ⟨v0, v1, v2, 8, i.m⟩ from by show (if i.b ≠ 8 then _ else _) = _; rw [if_neg (fun e => e h8)]) ▸ RF
        exact ⟨⟨k + 1, by omega, by first | exact congrArg (Value.int .i64) (g4.trans (by push_cast; rfl)) | go_num, hfin⟩, by first | exact meas_lt2 hlt | (rw [g4]; exact meas_lt2 hlt) | (simp [intOf]; omega)⟩
      obtain ⟨hri0, hri1, hri2, hri3, hri4, hri5, hri6, _, _, _, _, _⟩ := HRI.out
      obtain ⟨hm0, hm1⟩ := HM.out
      have hxl : (regW i.b).length ≤ 21 := by have := regW_small (n := i.b) (by omega) (by omega); omega
      have hw : wordO i 115 = regW i.b := by unfold wordO; rw [if_neg (by decide), if_neg (by decide), if_neg (by decide), if_pos ⟨rfl, h8⟩]
      rw [hw] at cw
      clear hw
      have hx2 : ((S[k].toNat : Nat) : Int) = 115 := by rw [hx]; rfl
      clear hx
      have PX := Lib.hid (reg_syntax (n := i.b) (by omega) (by omega))
      have RX := Lib.hid (fun w => register_reg w i.b (by omega) (by omega))
      generalize regW i.b = X at cw PX RX hxl
      have HXL := Lib.hid hxl
      clear hxl
      go_wp2_with fail
      clear cw
      refine (RX.out wr).mono ?_
      rintro e w8 ⟨rfl, rfl⟩
      go_wp2_with fail
      obtain ⟨tp, pp, he⟩ := (HL.out.below RD.out.b).e
      refine (Tryz.strconv_ParseInt_10_at64_syntax (sB X) (by rw [sB_size]; have := HXL.out; omega) (by rw [sB_list]; exact PX.out) (.iface tp pp) wr he (.inr ⟨tp, pp, rfl⟩)).mono ?_
      rintro e w9 ⟨NN, rfl, -, -, b9⟩
      have R9 := Lib.hid (RD.out.below b9)
      clear b9 he RD
      have z3 : w9.cell? ⟨q8, 3, none⟩ = some (.int .i64 v3) := R9.out.o8.cell 3
      have zf := R9.out.o8.frozen
      go_wp2_with fail
      have RF := (RdL.put (i := 3) (u := .int .i64 i.b) (j' := ⟨v0, v1, v2, i.b, v4⟩) R9.out rfl)
      have hfin : RdL w (w9.setCell ⟨q8, 3, none⟩ (.int .i64 i.b)) q2 q8 gw (nameO i :: wordsO i) (readK i (k + 1)) := by rw [HRK.out]; exact (show putF i 115 ⟨v0, v1, v2, v3, v4⟩ = ⟨v0, v1, v2, i.b, v4⟩ from by show (if i.b ≠ 8 then _ else _) = _; rw [if_pos h8]) ▸ RF
      exact ⟨⟨k + 1, by omega, by first | exact congrArg (Value.int .i64) (g4.trans (by push_cast; rfl)) | go_num, hfin⟩, by first | exact meas_lt2 hlt | (rw [g4]; exact meas_lt2 hlt) | (simp [intOf]; omega)⟩
    obtain ⟨hri0, hri1, hri2, hri3, hri4, hri5, hri6, _, _, _, _, _⟩ := HRI.out
    obtain ⟨hm0, hm1⟩ := HM.out
    have hw : wordO i 110 = itoa i.m := rfl
    rw [hw] at cw
    clear hw
    have hx2 : ((S[k].toNat : Nat) : Int) = 110 := by rw [hx]; rfl
    clear hx
    have hil := itoa_len (n := i.m) (by omega) (by omega)
    have PX := Lib.hid (parse_itoa (n := i.m) (by omega) (by omega))
    have RX := Lib.hid (fun w => register_not w i.m hil)
    generalize itoa i.m = X at cw PX RX hil
    have HXL := Lib.hid (show X.length ≤ 21 by omega)
    clear hil
    go_wp2_with fail
    clear cw
    refine (RX.out wr).mono ?_
    rintro e w8 ⟨rfl, rfl⟩
    go_wp2_with fail
    refine (Tryz.strconv_ParseInt_10_at64_ok (sB X) (by rw [sB_size]; have := HXL.out; omega) i.m (by rw [sB_list]; exact PX.out) wr).mono ?_
    rintro e w9 ⟨rfl, hw9⟩
    have b9 : Below wr.heap.size wr w9 := by
     rcases hw9 with rfl | ⟨tt, rfl⟩
     · exact Below.refl _ _
     exact Lib.bytesWorld_below wr 5 tt
    have R9 := Lib.hid (RD.out.below b9)
    clear b9 RD hw9
    have z4 : w9.cell? ⟨q8, 4, none⟩ = some (.int .i64 v4) := R9.out.o8.cell 4
    have zf := R9.out.o8.frozen
    go_wp2_with fail
    have RF := (RdL.put (i := 4) (u := .int .i64 i.m) (j' := ⟨v0, v1, v2, v3, i.m⟩) R9.out rfl)
    have hfin : RdL w (w9.setCell ⟨q8, 4, none⟩ (.int .i64 i.m)) q2 q8 gw (nameO i :: wordsO i) (readK i (k + 1)) := by rw [HRK.out]; exact RF
    exact ⟨⟨k + 1, by omega, by first | exact congrArg (Value.int .i64) (g4.trans (by push_cast; rfl)) | go_num, hfin⟩, by first | exact meas_lt2 hlt | (rw [g4]; exact meas_lt2 hlt) | (simp [intOf]; omega)⟩
  obtain rfl : N = k := by omega
  have l1 : ¬ (N : Int) < (N : Int) := by omega
  rw [HRA.out] at RD
  go_upto_region 28 with fail
  obtain ⟨wd, hwd⟩ : ∃ wd, wr.drew = wd := ⟨_, rfl⟩
  have DD := Lib.hid (hwd ▸ RD.out.drew)
  clear RD HOI HOD HSG HRA HFI HOI2 HNM HRS
  refine wp_region_held_drew (S := fun w' => (w'.cell? ⟨q8, 0, none⟩ = some (Value.int .i64 i.op) ∧ w'.cell? ⟨q8, 1, none⟩ = some (Value.int .i64 i.d) ∧ w'.cell? ⟨q8, 2, none⟩ = some (Value.int .i64 i.a) ∧ w'.cell? ⟨q8, 3, none⟩ = some (Value.int .i64 i.b) ∧ w'.cell? ⟨q8, 4, none⟩ = some (Value.int .i64 i.m))) (by kernel_rfl) (by rw [hwd]; exact ⟨DD.out.o8.cell 0, DD.out.o8.cell 1, DD.out.o8.cell 2, DD.out.o8.cell 3, DD.out.o8.cell 4⟩) (fun hHeld => ?_)
  refine tkq 0 115 rfl (by kernel_rfl) (by rfl) hHeld (fun _ _ _ h => h) (by intro w' hSw; go_simp; try with_reducible rfl) ?_
  simp only [Act.put, spa, spb, spc]
  refine tkq 1 116 rfl (by kernel_rfl) (by rfl) hHeld (fun _ _ _ h => h) (by intro w' hSw; go_simp; try with_reducible rfl) ?_
  simp only [Act.put, spa, spb, spc]
  refine rdq 2 ⟨some 117, _, _, _, _, _⟩ (by kernel_rfl) rfl (fun K' hK => ?_)
  go_simp
  have DY := Lib.hid (DD.out.below (below_alloc (Below.refl _ _) (.cells #[.int .i64 i.op, .int .i64 i.d, .int .i64 i.a, .int .i64 i.b, .int .i64 i.m] 59)))
  refine hK.out _ _ ⟨DY.out.o8.cell 0, DY.out.o8.cell 1, DY.out.o8.cell 2, DY.out.o8.cell 3, DY.out.o8.cell 4⟩ (fun hHeld => ?_)
  clear hK K'
  refine rdq 3 ⟨some 118, _, _, _, _, _⟩ (by kernel_rfl) rfl (fun K' hK => ?_)
  go_simp
  refine (HRT.out _ _ _ (HL.out.f.below DY.out.b) (Sl.fresh wd #[.int .i64 i.op, .int .i64 i.d, .int .i64 i.a, .int .i64 i.b, .int .i64 i.m] 59 (0, 0))).mono ?_
  rintro e wx ⟨rfl, bx⟩
  have DX := Lib.hid (DY.out.below bx)
  clear bx
  refine hK.out _ _ ⟨DX.out.o8.cell 0, DX.out.o8.cell 1, DX.out.o8.cell 2, DX.out.o8.cell 3, DX.out.o8.cell 4⟩ (fun hHeld => ?_)
  clear hK K'
  refine tkq 4 119 rfl (by kernel_rfl) (by rfl) hHeld (fun _ _ _ h => h) (by intro w' hSw; go_simp; try with_reducible rfl) ?_
  simp only [Act.put, spa, spb, spc]
  refine tkq 5 120 rfl (by kernel_rfl) (by rfl) hHeld (fun _ _ _ h => h) (by intro w' hSw; go_simp; try with_reducible rfl) ?_
  simp only [Act.put, spa, spb, spc]
  refine tkq 7 122 rfl (by kernel_rfl) (by rfl) hHeld (fun _ _ _ h => h) (by intro w' hSw; go_simp; try with_reducible rfl) ?_
  simp only [Act.put, spa, spb, spc]
  refine rdq 6 ⟨some 121, _, _, _, _, _⟩ (by kernel_rfl) rfl (fun K' hK => ?_)
  go_simp
  refine (HLN.out wx (HL.out.below DX.out.b)).mono ?_
  rintro e wz ⟨rfl, bz⟩
  have DZ := Lib.hid (DX.out.below bz)
  clear bz
  refine hK.out _ _ ⟨DZ.out.o8.cell 0, DZ.out.o8.cell 1, DZ.out.o8.cell 2, DZ.out.o8.cell 3, DZ.out.o8.cell 4⟩ (fun hHeld => ?_)
  clear hK K'
  refine tkq 8 123 rfl (by kernel_rfl) (by rfl) hHeld (fun _ _ _ h => h) (by intro w' hSw; go_simp; try with_reducible rfl) ?_
  simp only [Act.put, spa, spb, spc]
  refine tkq 9 124 rfl (by kernel_rfl) (by rfl) hHeld (fun _ _ _ h => h) (by intro w' hSw; go_simp; try with_reducible rfl) ?_
  simp only [Act.put, spa, spb, spc]
  refine rdq 10 ⟨none, _, _, _, _, _⟩ (by kernel_rfl) rfl (fun K' hK => ?_)
  have z0 : wz.cell? ⟨q2, 0, none⟩ = some (.int .i64 0) := DZ.out.o2.cell 0
  have z1 : wz.cell? ⟨q2, 1, none⟩ = some (.int .i64 0) := DZ.out.o2.cell 1
  have z2 : wz.cell? ⟨q2, 2, none⟩ = some (.int .i64 0) := DZ.out.o2.cell 2
  have z3 : wz.cell? ⟨q2, 3, none⟩ = some (.int .i64 0) := DZ.out.o2.cell 3
  have z4 : wz.cell? ⟨q2, 4, none⟩ = some (.int .i64 0) := DZ.out.o2.cell 4
  have zf := DZ.out.o2.frozen
  go_simp
  have O8F := Lib.hid (Ob.far (Ob.far (Ob.far (Ob.far (Ob.far DZ.out.o8 (p := ⟨q2, 0, none⟩) DZ.out.n.symm (.int .i64 i.op)) (p := ⟨q2, 1, none⟩) DZ.out.n.symm (.int .i64 i.d)) (p := ⟨q2, 2, none⟩) DZ.out.n.symm (.int .i64 i.a)) (p := ⟨q2, 3, none⟩) DZ.out.n.symm (.int .i64 i.b)) (p := ⟨q2, 4, none⟩) DZ.out.n.symm (.int .i64 i.m))
  refine hK.out _ _ ⟨O8F.out.cell 0, O8F.out.cell 1, O8F.out.cell 2, O8F.out.cell 3, O8F.out.cell 4⟩ (fun hHeld => ?_)
  clear hK K'
  clear z0 z1 z2 z3 z4 zf O8F
  have OF := Lib.hid (show Ob (((((wz.setCell ⟨q2, 0, none⟩ (.int .i64 i.op)).setCell ⟨q2, 1, none⟩ (.int .i64 i.d)).setCell ⟨q2, 2, none⟩ (.int .i64 i.a)).setCell ⟨q2, 3, none⟩ (.int .i64 i.b)).setCell ⟨q2, 4, none⟩ (.int .i64 i.m)) q2 59 [.int .i64 i.op, .int .i64 i.d, .int .i64 i.a, .int .i64 i.b, .int .i64 i.m] from (((((DZ.out.o2.set_ 0 _).set_ 1 _).set_ 2 _).set_ 3 _).set_ 4 _))
  have BF := Lib.hid (Below.setCell (Below.setCell (Below.setCell (Below.setCell (Below.setCell DZ.out.b (p := ⟨q2, 0, none⟩) DZ.out.l2 (.int .i64 i.op)) (p := ⟨q2, 1, none⟩) DZ.out.l2 (.int .i64 i.d)) (p := ⟨q2, 2, none⟩) DZ.out.l2 (.int .i64 i.a)) (p := ⟨q2, 3, none⟩) DZ.out.l2 (.int .i64 i.b)) (p := ⟨q2, 4, none⟩) DZ.out.l2 (.int .i64 i.m))
  refine tkq 11 3 rfl (by kernel_rfl) (by rfl) hHeld (fun _ _ _ h => h) (by intro w' hSw; go_simp; try with_reducible rfl) ?_
  simp only [Act.put, spa, spb, spc]
  refine wpAnyH_done (by kernel_rfl) ?_ _
  clear hwd DD DY DX DZ
  generalize (((((wz.setCell ⟨q2, 0, none⟩ (.int .i64 i.op)).setCell ⟨q2, 1, none⟩ (.int .i64 i.d)).setCell ⟨q2, 2, none⟩ (.int .i64 i.a)).setCell ⟨q2, 3, none⟩ (.int .i64 i.b)).setCell ⟨q2, 4, none⟩ (.int .i64 i.m)) = wf at OF BF ⊢
  clear hHeld
  go_wp2_with fail
  have s0 := OF.out.c0
  have s1 := OF.out.c1
  have s2 := OF.out.c2
  have s3 := OF.out.c3
  have s4 := OF.out.c4
  exact bodyPost_ret (v := .tuple #[.agg #[.int .i64 i.op, .int .i64 i.d, .int .i64 i.a, .int .i64 i.b, .int .i64 i.m], .bool true]) (by simp [results, Tryz.results21, go_sem, s0, s1, s2, s3, s4]) rfl ⟨rfl, BF.out⟩
end Go.Proofs.YtikkmkomlajnfaaGreatDoor.Wf
end
