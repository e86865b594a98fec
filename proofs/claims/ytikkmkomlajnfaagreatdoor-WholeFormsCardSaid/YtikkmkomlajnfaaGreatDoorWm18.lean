/-
  Layer 9: what is known of a register; number, source, nums, word, first. Conditions: those of each theorem.
-/
import Derived.Test.YtikkmkomlajnfaaGreatDoorWm01
import Derived.Test.YtikkmkomlajnfaaGreatDoorWm04
import Derived.Test.YtikkmkomlajnfaaGreatDoorWm06
import Derived.Test.YtikkmkomlajnfaaGreatDoorWm17
import Derived.Test.YtikkmkomlajnfaaGreatDoorWm16
import Derived.Deep.RegionHeld3
set_option linter.unusedVariables false
set_option linter.unusedSimpArgs false
section
namespace Go.Proofs.YtikkmkomlajnfaaGreatDoor.Jd
set_option maxRecDepth 100000
set_option maxHeartbeats 4000000
open Go.RowKit
open Go.Proofs.YtikkmkomlajnfaaGreatDoor.Op (InstV insc insVal inss ins0 rightV right_is Frm goesV writesV sourceV)

/-- what is known of one register -/
structure JT where
 k : Int
 lo : BitVec 64
 hi : BitVec 64
 m : Int
deriving DecidableEq
def j0 : JT := ⟨0, 0#64, 0#64, 0⟩
def jc (t : JT) : List Value := [.int .i64 t.k, .int .u64 (uv t.lo), .int .u64 (uv t.hi), .int .i64 t.m]
def jVal (t : JT) : Value := .agg #[.int .i64 t.k, .int .u64 (uv t.lo), .int .u64 (uv t.hi), .int .i64 t.m]
/-- its span is right -/
def JR (t : JT) : Prop := t.lo.toNat ≤ t.hi.toNat
def numT (lo hi : BitVec 64) : JT := ⟨1, lo, hi, 0⟩
/-- eight of them -/
def kc (K : Nat → JT) : List Value := jc (K 0) ++ (jc (K 1) ++ (jc (K 2) ++ (jc (K 3) ++ (jc (K 4) ++ (jc (K 5) ++ (jc (K 6) ++ jc (K 7)))))))
def kVal (K : Nat → JT) : Value := .agg (kc K).toArray
theorem kc_length (K : Nat → JT) : (kc K).length = 32 := rfl
theorem r_cases {r : Nat} (h : r < 8) : r = 0 ∨ r = 1 ∨ r = 2 ∨ r = 3 ∨ r = 4 ∨ r = 5 ∨ r = 6 ∨ r = 7 := by omega
theorem kc_get (K : Nat → JT) {r : Nat} (h : r < 8) : (kc K)[r * 4]? = some (.int .i64 (K r).k) ∧ (kc K)[r * 4 + 1]? = some (.int .u64 (uv (K r).lo)) ∧ (kc K)[r * 4 + 2]? = some (.int .u64 (uv (K r).hi)) ∧ (kc K)[r * 4 + 3]? = some (.int .i64 (K r).m) := by
 rcases r_cases h with rfl | rfl | rfl | rfl | rfl | rfl | rfl | rfl <;> exact ⟨rfl, rfl, rfl, rfl⟩
def updT (K : Nat → JT) (r : Nat) (t : JT) : Nat → JT := fun i => if i = r then t else K i
theorem kc_set (K : Nat → JT) {r : Nat} (h : r < 8) (t : JT) : ((((kc K).set (r * 4) (.int .i64 t.k)).set (r * 4 + 1) (.int .u64 (uv t.lo))).set (r * 4 + 2) (.int .u64 (uv t.hi))).set (r * 4 + 3) (.int .i64 t.m) = kc (updT K r t) := by
 rcases r_cases h with rfl | rfl | rfl | rfl | rfl | rfl | rfl | rfl <;> rfl
theorem kc_one (K : Nat → JT) : ∀ u ∈ kc K, u.oneCell' = true := by
 intro u hu
 simp only [kc, jc, List.mem_append, List.mem_cons, List.mem_nil_iff, or_false] at hu
 rcases hu with h | h | h | h | h | h | h | h <;> rcases h with rfl | rfl | rfl | rfl <;> rfl
/-- uint64 of an int64 -/
def ofI (m : Int) : BitVec 64 := BitVec.ofInt 64 m
theorem uv_ofI (m : Int) : uv (ofI m) = m % 18446744073709551616 := by
 unfold uv ofI
 rw [BitVec.toNat_ofInt]
 omega
def srcT (i : InstV) (K : Nat → JT) : JT := if i.b = 8 then numT (ofI i.m) (ofI i.m) else K i.b.toNat

def jcs (l : List JT) : List Value := l.flatMap jc
theorem jcs_length (l : List JT) : (jcs l).length = l.length * 4 := flat_length jc 4 (fun _ => rfl) l
theorem j_at {w : World} {A : Option Addr} {l : List JT} (h : Sl w A (jcs l)) (hn : 0 < l.length) :
 ∃ b o, A = some ⟨b, o, none⟩ ∧ b < w.heap.size ∧ ∀ k, k < l.length → w.cell? ⟨b, o + k * 4, none⟩ = some (.int .i64 (l.getD k j0).k) ∧ w.cell? ⟨b, o + k * 4 + 1, none⟩ = some (.int .u64 (uv (l.getD k j0).lo)) ∧
  w.cell? ⟨b, o + k * 4 + 2, none⟩ = some (.int .u64 (uv (l.getD k j0).hi)) ∧ w.cell? ⟨b, o + k * 4 + 3, none⟩ = some (.int .i64 (l.getD k j0).m) := by
 obtain ⟨b, o, e, hc⟩ := h (by rw [jcs_length]; omega)
 rw [jcs_length] at hc
 have key : ∀ k j, k < l.length → j < 4 → w.cell? ⟨b, o + k * 4 + j, none⟩ = some ((jc (l.getD k j0)).getD j undef) := fun k j hk hj => by
  have h1 := hc (k * 4 + j) (by omega)
  have h2 : (jcs l)[k * 4 + j]? = (jc (l.getD k j0))[j]? := flat_get j0 jc 4 (fun _ => rfl) l k j hk hj
  rw [← Nat.add_assoc] at h1
  rw [h1, List.getD_eq_getElem?_getD (l := jcs l), h2, ← List.getD_eq_getElem?_getD (l := jc (l.getD k j0))]
 refine ⟨b, o, e, cell_lt (hc 0 (by omega)), fun k hk => ⟨key k 0 hk (by omega), key k 1 hk (by omega), key k 2 hk (by omega), key k 3 hk (by omega)⟩⟩
theorem Ob.put4 {w : World} {q : Nat} {T : TypeId} {a b c d : Value} (h : Ob w q T [a, b, c, d]) (t : JT) :
 Ob ((((w.setCell ⟨q, 0, none⟩ (.int .i64 t.k)).setCell ⟨q, 1, none⟩ (.int .u64 (uv t.lo))).setCell ⟨q, 2, none⟩ (.int .u64 (uv t.hi))).setCell ⟨q, 3, none⟩ (.int .i64 t.m)) q T (jc t) :=
 (((h.set_ 0 _).set_ 1 _).set_ 2 _).set_ 3 _
theorem below_put4 {w0 w : World} {q : Nat} (h : Below w0.heap.size w0 w) (hq : w0.heap.size ≤ q) (a b c d : Value) :
 Below w0.heap.size w0 ((((w.setCell ⟨q, 0, none⟩ a).setCell ⟨q, 1, none⟩ b).setCell ⟨q, 2, none⟩ c).setCell ⟨q, 3, none⟩ d) :=
 (((h.setCell (p := ⟨q, 0, none⟩) hq a).setCell (p := ⟨q, 1, none⟩) hq b).setCell (p := ⟨q, 2, none⟩) hq c).setCell (p := ⟨q, 3, none⟩) hq d

theorem number_any (w : World) (lo hi : BitVec 64) :
 Calls Tryz.prog 79 #[Sp.spVal (uv lo) (uv hi)] w fun e w' => e = .returned (jVal (numT lo hi)) ∧ Below w.heap.size w w' := by
 unfold Sp.spVal
 have B1 := Lib.hid (below_alloc (Below.refl w.heap.size w) (.cells #[.int .u64 (uv lo), .int .u64 (uv hi)] 132))
 have O1 := Lib.hid (Ob.fresh w 132 [.int .u64 (uv lo), .int .u64 (uv hi)])
 go_enter Tryz.func79, Tryz.ntmps79
 go_upto_region 1 with fail
 have B2 := Lib.hid (below_alloc B1.out (.cells #[.int .i64 0, .int .u64 0, .int .u64 0, .int .i64 0] 134))
 have O2 := Lib.hid (Ob.fresh (w.alloc (.cells #[.int .u64 (uv lo), .int .u64 (uv hi)] 132)) 134 [.int .i64 0, .int .u64 0, .int .u64 0, .int .i64 0])
 have O1 := Lib.hid (O1.out.alloc (.cells #[.int .i64 0, .int .u64 0, .int .u64 0, .int .i64 0] 134))
 have hq := Lib.hid (show w.heap.size ≤ (w.alloc (.cells #[.int .u64 (uv lo), .int .u64 (uv hi)] 132)).heap.size from B1.out.size)
 rw [show (w.alloc (.cells #[.int .u64 (uv lo), .int .u64 (uv hi)] 132)).heap.size = w.heap.size + 1 by simp] at O2 hq
 generalize (w.alloc (.cells #[.int .u64 (uv lo), .int .u64 (uv hi)] 132)).alloc (.cells #[.int .i64 0, .int .u64 0, .int .u64 0, .int .i64 0] 134) = w2 at B2 O1 O2 ⊢
 clear B1
 obtain ⟨q, hqq⟩ : ∃ q, w.heap.size + 1 = q := ⟨_, rfl⟩
 rw [hqq] at O2 hq ⊢
 clear hqq
 have i0 : w2.cell? ⟨w.heap.size, 0, none⟩ = some (.int .u64 (uv lo)) := O1.out.cell 0
 have i1 : w2.cell? ⟨w.heap.size, 1, none⟩ = some (.int .u64 (uv hi)) := O1.out.cell 1
 have hf := O2.out.frozen
 have z0 := O2.out.c0
 have z1 := O2.out.c1
 have z2 := O2.out.c2
 have z3 := O2.out.c3
 go_wp2_with fail
 have O3 := Ob.put4 O2.out (numT lo hi)
 have B3 := below_put4 B2.out hq.out (.int .i64 1) (.int .u64 (uv lo)) (.int .u64 (uv hi)) (.int .i64 0)
 unfold numT at O3
 dsimp only at O3
 generalize (((w2.setCell ⟨q, 0, none⟩ (.int .i64 1)).setCell ⟨q, 1, none⟩ (.int .u64 (uv lo))).setCell ⟨q, 2, none⟩ (.int .u64 (uv hi))).setCell ⟨q, 3, none⟩ (.int .i64 0) = w3 at O3 B3 ⊢
 have s0 : w3.cell? ⟨q, 0, none⟩ = some (.int .i64 1) := O3.cell 0
 have s1 : w3.cell? ⟨q, 1, none⟩ = some (.int .u64 (uv lo)) := O3.cell 1
 have s2 : w3.cell? ⟨q, 2, none⟩ = some (.int .u64 (uv hi)) := O3.cell 2
 have s3 : w3.cell? ⟨q, 3, none⟩ = some (.int .i64 0) := O3.cell 3
 exact bodyPost_ret (v := jVal (numT lo hi)) (by simp [results, Tryz.results79, go_sem, jVal, numT, s0, s1, s2, s3]) rfl ⟨rfl, B3⟩

/-- are all of them numbers? -/
def numsV : List JT → Int
 | [] => 0
 | t :: l => if t.k = 1 then numsV l else 33
theorem drop_j (l : List JT) (k : Nat) (h : k < l.length) : l.drop k = l.getD k j0 :: l.drop (k + 1) := by
 rw [List.drop_eq_getElem_cons h, List.getD_eq_getElem?_getD, List.getElem?_eq_getElem h]; rfl

theorem nums_any (w : World) (l : List JT) (A : Option Addr) (n c : Nat) (hn : n = l.length) (hm : n ≤ 64) (hs : Sl w A (jcs l)) :
 Calls Tryz.prog 84 #[.slice A n c] w fun e w' => e = .returned (.int .i64 (numsV l)) ∧ Below w.heap.size w w' := by
 have HN := Lib.hid hn
 have HS := Lib.hid hs
 obtain ⟨V, hV⟩ : ∃ V, numsV l = V := ⟨_, rfl⟩
 rw [hV]
 have HV := Lib.hid hV
 clear hn hs hV
 go_enter Tryz.func84, Tryz.ntmps84
 go_wp2_with fail
 go_loopw [7] (fun i wr => ∃ k : Nat, k ≤ n ∧ i = .int .i64 k ∧ numsV (l.drop k) = V ∧ Below w.heap.size w wr) (fun i _ => n - (intOf i).toNat)
 case atStart => exact ⟨0, Nat.zero_le _, rfl, HV.out, Below.refl _ _⟩
 case round =>
  obtain ⟨k, hk, rfl, hv, hb⟩ := hrel
  clear HV
  have HV := Lib.hid hv
  have HB := Lib.hid hb
  clear hv hb
  by_cases hlt : k < n
  · have g1 : (k : Int) < (n : Int) := by omega
    have hkl : k < l.length := by have := HN.out; omega
    obtain ⟨b, o, rfl, _, hc⟩ := j_at (HS.out.below HB.out) (by omega)
    obtain ⟨c0, c1, c2, c3⟩ := hc k hkl
    have HSV := Lib.hid (show (if (l.getD k j0).k = 1 then numsV (l.drop (k + 1)) else 33) = V by rw [← HV.out, drop_j l k hkl]; rfl)
    clear hc hkl HV
    generalize l.getD k j0 = t at c0 c1 c2 c3 HSV
    obtain ⟨kd, lo, hi, m⟩ := t
    dsimp only at c0 c1 c2 c3 HSV
    have g4 : wrap64 ((k : Int) + 1) = (k : Int) + 1 := by unfold wrap64; omega
    have O4 := Lib.hid (Ob.fresh wr 134 [.int .i64 kd, .int .u64 (uv lo), .int .u64 (uv hi), .int .i64 m])
    have B4 := Lib.hid (below_alloc HB.out (.cells #[.int .i64 kd, .int .u64 (uv lo), .int .u64 (uv hi), .int .i64 m] 134))
    clear HB
    go_upto_region 4 with fail
    clear c0 c1 c2 c3
    generalize wr.alloc (.cells #[.int .i64 kd, .int .u64 (uv lo), .int .u64 (uv hi), .int .i64 m] 134) = w4 at O4 B4 ⊢
    generalize wr.heap.size = q at O4 ⊢
    have i0 := O4.out.c0
    by_cases h1 : kd = 1
    · subst h1
      have HV2 := Lib.hid (show numsV (l.drop (k + 1)) = V from HSV.out)
      clear HSV
      go_wp2_with fail
      go_roundw
      case rel => exact ⟨k + 1, Nat.succ_le_of_lt hlt, by first | exact congrArg (Value.int .i64) (g4.trans (by push_cast; rfl)) | go_num, HV2.out, B4.out⟩
      case measure => first | exact Op.meas_lt hlt | (rw [g4]; exact Op.meas_lt hlt)
    have HV2 := Lib.hid (show (33 : Int) = V by rw [← HSV.out, if_neg h1])
    have h1i : (kd != 1) = true := by simpa using h1
    clear HSV h1
    go_wp2_with fail
    go_ret
    exact ⟨by rw [← HV2.out] <;> first | done | rfl, B4.out⟩
  have g1 : ¬ (k : Int) < (n : Int) := by omega
  have HV2 := Lib.hid (show (0 : Int) = V by rw [← HV.out, List.drop_eq_nil_of_le (by have := HN.out; omega)]; rfl)
  go_wp2_with fail
  go_ret
  exact ⟨by rw [← HV2.out] <;> first | done | rfl, HB.out⟩

def wordV (t : JT) : Int := if Sp.withinB (uv t.lo) (uv t.hi) 0 15 = true then 0 else 35
theorem word_any (w : World) (t : JT) :
 Calls Tryz.prog 85 #[jVal t] w fun e w' => e = .returned (.int .i64 (wordV t)) ∧ Below w.heap.size w w' := by
 obtain ⟨kd, lo, hi, m⟩ := t
 unfold jVal wordV
 dsimp only
 have HW := Lib.hid (fun w => Sp.within_any w (uv lo) (uv hi) 0 15)
 unfold Sp.spVal at HW
 generalize Sp.withinB (uv lo) (uv hi) 0 15 = J at HW ⊢
 have O1 := Lib.hid (Ob.fresh w 134 [.int .i64 kd, .int .u64 (uv lo), .int .u64 (uv hi), .int .i64 m])
 have B1 := Lib.hid (below_alloc (Below.refl w.heap.size w) (.cells #[.int .i64 kd, .int .u64 (uv lo), .int .u64 (uv hi), .int .i64 m] 134))
 go_enter Tryz.func85, Tryz.ntmps85
 go_upto_region 1 with fail
 generalize w.alloc (.cells #[.int .i64 kd, .int .u64 (uv lo), .int .u64 (uv hi), .int .i64 m] 134) = w2 at O1 B1 ⊢
 have i1 : w2.cell? ⟨w.heap.size, 1, none⟩ = some (.int .u64 (uv lo)) := O1.out.cell 1
 have i2 : w2.cell? ⟨w.heap.size, 2, none⟩ = some (.int .u64 (uv hi)) := O1.out.cell 2
 go_wp2_with fail
 refine (HW.out w2).mono ?_
 rintro e w3 ⟨rfl, b3⟩
 have B3 := Lib.hid (B1.out.trans (b3.mono B1.out.size))
 clear b3
 cases J
 · go_wp2_with fail
   go_ret
   exact ⟨rfl, B3.out⟩
 go_wp2_with fail
 go_ret
 exact ⟨rfl, B3.out⟩

/-- the first error of two -/
def firstV (a b : Int) : Int := if a = 0 then b else a
theorem first_any (w : World) (a b : Int) (A : Option Addr) (hs : Sl w A [.int .i64 a, .int .i64 b]) :
 Calls Tryz.prog 83 #[.slice A 2 2] w fun e w' => e = .returned (.int .i64 (firstV a b)) ∧ Below w.heap.size w w' := by
 obtain ⟨q, o, rfl, hc⟩ := hs (Nat.succ_pos _)
 have c0 : w.cell? ⟨q, o, none⟩ = some (.int .i64 a) := hc 0 (Nat.succ_pos _)
 have c1 : w.cell? ⟨q, o + 1, none⟩ = some (.int .i64 b) := hc 1 (Nat.succ_lt_succ (Nat.succ_pos _))
 clear hc
 go_enter Tryz.func83, Tryz.ntmps83
 go_wp2_with fail
 go_loopw [7] (fun i wr => w = wr ∧ (i = .int .i64 0 ∨ (i = .int .i64 1 ∧ a = 0) ∨ (i = .int .i64 2 ∧ a = 0 ∧ b = 0))) (fun i _ => 2 - (intOf i).toNat)
 case atStart => exact ⟨rfl, .inl rfl⟩
 case round =>
  obtain ⟨rfl, hi⟩ := hrel
  rcases hi with rfl | ⟨rfl, rfl⟩ | ⟨rfl, rfl, rfl⟩
  · by_cases ha : a = 0
    · subst ha
      go_wp2_with fail
      exact ⟨⟨by trivial, .inr (.inl ⟨rfl, by trivial⟩)⟩, by decide⟩
    have hai : (a != 0) = true := by simpa using ha
    have HA := Lib.hid ha
    clear ha
    go_wp2_with fail
    go_ret
    exact ⟨by unfold firstV; rw [if_neg HA.out]; rfl, Below.refl _ _⟩
  · by_cases ha : b = 0
    · subst ha
      go_wp2_with fail
      exact ⟨⟨by trivial, .inr (.inr ⟨rfl, by trivial, by trivial⟩)⟩, by decide⟩
    have hai : (b != 0) = true := by simpa using ha
    have HA := Lib.hid ha
    clear ha
    go_wp2_with fail
    go_ret
    exact ⟨by unfold firstV; rfl, Below.refl _ _⟩
  go_wp2_with fail
  go_ret
  exact ⟨rfl, Below.refl _ _⟩

theorem wrapu (m : Int) : IntKind.u64.wrap m = uv (ofI m) := by rw [uv_ofI]; rfl
theorem source_any (w : World) (i : InstV) (K : Nat → JT) (hb : i.b = 8 ∨ (0 ≤ i.b ∧ i.b < 8)) :
 Calls Tryz.prog 82 #[insVal i, kVal K] w fun e w' => e = .returned (jVal (srcT i K)) ∧ Below w.heap.size w w' := by
 have HS1 := Lib.hid (fun w n => Sp.single_any w n)
 have HNU := Lib.hid (fun w lo hi => number_any w lo hi)
 obtain ⟨op, d, a, b, m⟩ := i
 dsimp only at hb
 unfold insVal kVal
 dsimp only
 have B0 := Lib.hid (Below.refl w.heap.size w)
 go_enter Tryz.func82, Tryz.ntmps82
 go_upto_region 1 with fail
 have O1 := Lib.hid (Ob.alloc (Ob.alloc (Ob.fresh w 59 [.int .i64 op, .int .i64 d, .int .i64 a, .int .i64 b, .int .i64 m]) (.cells (kc K).toArray 136)) (.cells #[.int .i64 0, .int .u64 0, .int .u64 0, .int .i64 0] 134))
 have O2 := Lib.hid (Ob.alloc (Ob.fresh (w.alloc (.cells #[.int .i64 op, .int .i64 d, .int .i64 a, .int .i64 b, .int .i64 m] 59)) 136 (kc K)) (.cells #[.int .i64 0, .int .u64 0, .int .u64 0, .int .i64 0] 134))
 rw [show (w.alloc (.cells #[.int .i64 op, .int .i64 d, .int .i64 a, .int .i64 b, .int .i64 m] 59)).heap.size = w.heap.size + 1 by simp] at O2
 have O3 := Lib.hid (Ob.fresh ((w.alloc (.cells #[.int .i64 op, .int .i64 d, .int .i64 a, .int .i64 b, .int .i64 m] 59)).alloc (.cells (kc K).toArray 136)) 134 [.int .i64 0, .int .u64 0, .int .u64 0, .int .i64 0])
 rw [show ((w.alloc (.cells #[.int .i64 op, .int .i64 d, .int .i64 a, .int .i64 b, .int .i64 m] 59)).alloc (.cells (kc K).toArray 136)).heap.size = w.heap.size + 1 + 1 by simp] at O3
 have B1 := Lib.hid (below_alloc (below_alloc (below_alloc (B0.out) (.cells #[.int .i64 op, .int .i64 d, .int .i64 a, .int .i64 b, .int .i64 m] 59)) (.cells (kc K).toArray 136)) (.cells #[.int .i64 0, .int .u64 0, .int .u64 0, .int .i64 0] 134))
 have Hq1 := Lib.hid (show w.heap.size ≤ w.heap.size by have := B0.out.size; omega)
 have Hq2 := Lib.hid (show w.heap.size ≤ w.heap.size + 1 by have := B0.out.size; omega)
 have Hq3 := Lib.hid (show w.heap.size ≤ w.heap.size + 1 + 1 by have := B0.out.size; omega)
 clear B0
 generalize (((w.alloc (.cells #[.int .i64 op, .int .i64 d, .int .i64 a, .int .i64 b, .int .i64 m] 59)).alloc (.cells (kc K).toArray 136)).alloc (.cells #[.int .i64 0, .int .u64 0, .int .u64 0, .int .i64 0] 134)) = w2 at O1 O2 O3 B1 ⊢
 obtain ⟨q3, hq3⟩ : ∃ q3, w.heap.size + 1 + 1 = q3 := ⟨_, rfl⟩
 rw [hq3] at O3 Hq3 ⊢
 clear hq3
 obtain ⟨q2, hq2⟩ : ∃ q2, w.heap.size + 1 = q2 := ⟨_, rfl⟩
 rw [hq2] at O2 Hq2 ⊢
 clear hq2
 obtain ⟨q1, hq1⟩ : ∃ q1, w.heap.size = q1 := ⟨_, rfl⟩
 rw [hq1] at O1 Hq1 ⊢
 clear hq1
 have i0 := O1.out.c0
 have i1 := O1.out.c1
 have i2 := O1.out.c2
 have i3 := O1.out.c3
 have i4 := O1.out.c4
 have zf := O3.out.frozen
 have z0 := O3.out.c0
 have z1 := O3.out.c1
 have z2 := O3.out.c2
 have z3 := O3.out.c3
 by_cases h8 : b = 8
 · subst h8
   clear hb
   have gw := wrapu m
   have HE := Lib.hid (show srcT ⟨op, d, a, 8, m⟩ K = numT (ofI m) (ofI m) from if_pos rfl)
   go_wp2_with fail
   refine (HS1.out w2 _).mono ?_
   rintro e w3 ⟨rfl, b3⟩
   have B3 := Lib.hid (B1.out.trans (b3.mono B1.out.size))
   have O4 := Lib.hid (O3.out.below b3 O3.out.lt)
   clear b3 B1 O1 O2 O3 i0 i1 i2 i3 i4 zf z0 z1 z2 z3
   go_wp2_with fail
   refine (HNU.out w3 _ _).mono ?_
   rintro e w4 ⟨rfl, b4⟩
   have B5 := Lib.hid (B3.out.trans (b4.mono B3.out.size))
   have O5 := Lib.hid (O4.out.below b4 O4.out.lt)
   clear b4 B3 O4
   have zf := O5.out.frozen
   have z0 := O5.out.c0
   have z1 := O5.out.c1
   have z2 := O5.out.c2
   have z3 := O5.out.c3
   dsimp only [jVal, numT]
   go_wp2_with fail
   have O4 := Ob.put4 O5.out (numT (ofI m) (ofI m))
   have B4 := below_put4 B5.out Hq3.out (.int .i64 1) (.int .u64 (uv (ofI m))) (.int .u64 (uv (ofI m))) (.int .i64 0)
   try simp only [numT, j0, uv_zero] at O4 B4
   generalize (((w4.setCell ⟨q3, 0, none⟩ (.int .i64 1)).setCell ⟨q3, 1, none⟩ (.int .u64 (uv (ofI m)))).setCell ⟨q3, 2, none⟩ (.int .u64 (uv (ofI m)))).setCell ⟨q3, 3, none⟩ (.int .i64 0) = wf at O4 B4 ⊢
   have s0 : wf.cell? ⟨q3, 0, none⟩ = some (.int .i64 1) := O4.cell 0
   have s1 : wf.cell? ⟨q3, 1, none⟩ = some (.int .u64 (uv (ofI m))) := O4.cell 1
   have s2 : wf.cell? ⟨q3, 2, none⟩ = some (.int .u64 (uv (ofI m))) := O4.cell 2
   have s3 : wf.cell? ⟨q3, 3, none⟩ = some (.int .i64 0) := O4.cell 3
   exact bodyPost_ret (v := jVal (numT (ofI m) (ofI m))) (by simp [results, Tryz.results82, go_sem, jVal, numT, j0, uv_zero, s0, s1, s2, s3]) rfl ⟨by rw [HE.out] <;> first | done | rfl, B4⟩
 obtain ⟨r, rfl⟩ : ∃ r : Nat, b = r := ⟨b.toNat, by omega⟩
 have hr8 : r < 8 := by omega
 have h8i : ((r : Int) == 8) = false := by rw [beq_eq_false_iff_ne]; omega
 have hr8i : (r : Int) < 8 := by omega
 have hg := kc_get K hr8
 have k0 : w2.cell? ⟨q2, r * 4, none⟩ = some (.int .i64 (K r).k) := (O2.out.cell _).trans hg.1
 have k1 : w2.cell? ⟨q2, r * 4 + 1, none⟩ = some (.int .u64 (uv (K r).lo)) := (O2.out.cell _).trans hg.2.1
 have k2 : w2.cell? ⟨q2, r * 4 + 2, none⟩ = some (.int .u64 (uv (K r).hi)) := (O2.out.cell _).trans hg.2.2.1
 have k3 : w2.cell? ⟨q2, r * 4 + 3, none⟩ = some (.int .i64 (K r).m) := (O2.out.cell _).trans hg.2.2.2
 have HE := Lib.hid (show srcT ⟨op, d, a, (r : Int), m⟩ K = K r from (if_neg h8).trans (by rw [Int.toNat_natCast]))
 clear h8 hb hg
 generalize K r = t at k0 k1 k2 k3 HE
 obtain ⟨kd, lo, hi, mp⟩ := t
 dsimp only at k0 k1 k2 k3
 go_wp2_with fail
 have O4 := Ob.put4 O3.out (⟨kd, lo, hi, mp⟩)
 have B4 := below_put4 B1.out Hq3.out (.int .i64 kd) (.int .u64 (uv lo)) (.int .u64 (uv hi)) (.int .i64 mp)
 try simp only [numT, j0, uv_zero] at O4 B4
 generalize (((w2.setCell ⟨q3, 0, none⟩ (.int .i64 kd)).setCell ⟨q3, 1, none⟩ (.int .u64 (uv lo))).setCell ⟨q3, 2, none⟩ (.int .u64 (uv hi))).setCell ⟨q3, 3, none⟩ (.int .i64 mp) = wf at O4 B4 ⊢
 have s0 : wf.cell? ⟨q3, 0, none⟩ = some (.int .i64 kd) := O4.cell 0
 have s1 : wf.cell? ⟨q3, 1, none⟩ = some (.int .u64 (uv lo)) := O4.cell 1
 have s2 : wf.cell? ⟨q3, 2, none⟩ = some (.int .u64 (uv hi)) := O4.cell 2
 have s3 : wf.cell? ⟨q3, 3, none⟩ = some (.int .i64 mp) := O4.cell 3
 exact bodyPost_ret (v := jVal (⟨kd, lo, hi, mp⟩)) (by simp [results, Tryz.results82, go_sem, jVal, numT, j0, uv_zero, s0, s1, s2, s3]) rfl ⟨by rw [HE.out] <;> first | done | rfl, B4⟩

/-- what is known of two -/
def jnT (a b : JT) : JT := if a.k = b.k ∧ a.m = b.m then (if a.k = 1 then numT (Sp.minB a.lo b.lo) (Sp.maxB a.hi b.hi) else a) else j0

theorem joined_any (w : World) (a b : JT) (ha : JR a) (hb : JR b) :
 Calls Tryz.prog 132 #[jVal a, jVal b] w fun e w' => e = .returned (jVal (jnT a b)) ∧ Below w.heap.size w w' := by
 have HJ := Lib.hid (fun w A hs => Sp.join2_any (w := w) (A := A) ha hb hs)
 have HNU := Lib.hid (fun w lo hi => number_any w lo hi)
 obtain ⟨ak, al, ah, am⟩ := a
 obtain ⟨bk, bl, bh, bm⟩ := b
 unfold jVal
 dsimp only at HJ ⊢
 have B0 := Lib.hid (Below.refl w.heap.size w)
 go_enter Tryz.func132, Tryz.ntmps132
 go_upto_region 1 with fail
 have O1 := Lib.hid (Ob.alloc (Ob.alloc (Ob.fresh w 134 [.int .i64 ak, .int .u64 (uv al), .int .u64 (uv ah), .int .i64 am]) (.cells #[.int .i64 bk, .int .u64 (uv bl), .int .u64 (uv bh), .int .i64 bm] 134)) (.cells #[.int .i64 0, .int .u64 0, .int .u64 0, .int .i64 0] 134))
 have O2 := Lib.hid (Ob.alloc (Ob.fresh (w.alloc (.cells #[.int .i64 ak, .int .u64 (uv al), .int .u64 (uv ah), .int .i64 am] 134)) 134 [.int .i64 bk, .int .u64 (uv bl), .int .u64 (uv bh), .int .i64 bm]) (.cells #[.int .i64 0, .int .u64 0, .int .u64 0, .int .i64 0] 134))
 rw [show (w.alloc (.cells #[.int .i64 ak, .int .u64 (uv al), .int .u64 (uv ah), .int .i64 am] 134)).heap.size = w.heap.size + 1 by simp] at O2
 have O3 := Lib.hid (Ob.fresh ((w.alloc (.cells #[.int .i64 ak, .int .u64 (uv al), .int .u64 (uv ah), .int .i64 am] 134)).alloc (.cells #[.int .i64 bk, .int .u64 (uv bl), .int .u64 (uv bh), .int .i64 bm] 134)) 134 [.int .i64 0, .int .u64 0, .int .u64 0, .int .i64 0])
 rw [show ((w.alloc (.cells #[.int .i64 ak, .int .u64 (uv al), .int .u64 (uv ah), .int .i64 am] 134)).alloc (.cells #[.int .i64 bk, .int .u64 (uv bl), .int .u64 (uv bh), .int .i64 bm] 134)).heap.size = w.heap.size + 1 + 1 by simp] at O3
 have B1 := Lib.hid (below_alloc (below_alloc (below_alloc (B0.out) (.cells #[.int .i64 ak, .int .u64 (uv al), .int .u64 (uv ah), .int .i64 am] 134)) (.cells #[.int .i64 bk, .int .u64 (uv bl), .int .u64 (uv bh), .int .i64 bm] 134)) (.cells #[.int .i64 0, .int .u64 0, .int .u64 0, .int .i64 0] 134))
 have Hq1 := Lib.hid (show w.heap.size ≤ w.heap.size by have := B0.out.size; omega)
 have Hq2 := Lib.hid (show w.heap.size ≤ w.heap.size + 1 by have := B0.out.size; omega)
 have Hq3 := Lib.hid (show w.heap.size ≤ w.heap.size + 1 + 1 by have := B0.out.size; omega)
 clear B0
 generalize (((w.alloc (.cells #[.int .i64 ak, .int .u64 (uv al), .int .u64 (uv ah), .int .i64 am] 134)).alloc (.cells #[.int .i64 bk, .int .u64 (uv bl), .int .u64 (uv bh), .int .i64 bm] 134)).alloc (.cells #[.int .i64 0, .int .u64 0, .int .u64 0, .int .i64 0] 134)) = w2 at O1 O2 O3 B1 ⊢
 obtain ⟨q3, hq3⟩ : ∃ q3, w.heap.size + 1 + 1 = q3 := ⟨_, rfl⟩
 rw [hq3] at O3 Hq3 ⊢
 clear hq3
 obtain ⟨q2, hq2⟩ : ∃ q2, w.heap.size + 1 = q2 := ⟨_, rfl⟩
 rw [hq2] at O2 Hq2 ⊢
 clear hq2
 obtain ⟨q1, hq1⟩ : ∃ q1, w.heap.size = q1 := ⟨_, rfl⟩
 rw [hq1] at O1 Hq1 ⊢
 clear hq1
 have zf := O3.out.frozen
 have z0 := O3.out.c0
 have z1 := O3.out.c1
 have z2 := O3.out.c2
 have z3 := O3.out.c3
 have ca0 := O1.out.c0
 have ca1 := O1.out.c1
 have ca2 := O1.out.c2
 have ca3 := O1.out.c3
 have cb0 := O2.out.c0
 have cb1 := O2.out.c1
 have cb2 := O2.out.c2
 have cb3 := O2.out.c3
 by_cases hk : ak = bk
 · by_cases hm : am = bm
   · subst hk
     subst hm
     by_cases h1 : ak = 1
     · subst h1
       have HE := Lib.hid (show jnT ⟨1, al, ah, am⟩ ⟨1, bl, bh, am⟩ = numT (Sp.minB al bl) (Sp.maxB ah bh) from (if_pos ⟨rfl, rfl⟩).trans (if_pos rfl))
       generalize Sp.minB al bl = X at HE HJ
       generalize Sp.maxB ah bh = Y at HE HJ
       go_wp2_with fail
       have B2 := Lib.hid (below_alloc B1.out (.cells #[.int .u64 (uv al), .int .u64 (uv ah), .int .u64 (uv bl), .int .u64 (uv bh)] 132))
       refine (HJ.out _ _ (Sl.fresh w2 #[.int .u64 (uv al), .int .u64 (uv ah), .int .u64 (uv bl), .int .u64 (uv bh)] 132 (0, 0))).mono ?_
       rintro e w3 ⟨rfl, b3⟩
       have B3 := Lib.hid (B2.out.trans (b3.mono B2.out.size))
       have O4 := Lib.hid ((O3.out.alloc (.cells #[.int .u64 (uv al), .int .u64 (uv ah), .int .u64 (uv bl), .int .u64 (uv bh)] 132)).below b3 (Ob.alloc O3.out _).lt)
       clear b3 B1 B2 O1 O2 O3 ca0 ca1 ca2 ca3 cb0 cb1 cb2 cb3 zf z0 z1 z2 z3
       dsimp only [Sp.spVal]
       go_upto_region 5 with fail
       have O5 := Lib.hid (Ob.fresh w3 132 [.int .u64 (uv X), .int .u64 (uv Y)])
       have O6 := Lib.hid (Ob.alloc (O4.out) (.cells #[.int .u64 (uv X), .int .u64 (uv Y)] 132))
       have B4 := Lib.hid (below_alloc (B3.out) (.cells #[.int .u64 (uv X), .int .u64 (uv Y)] 132))
       have Hq5 := Lib.hid (show w.heap.size ≤ w3.heap.size by have := B3.out.size; omega)
       clear B3 O4
       generalize (w3.alloc (.cells #[.int .u64 (uv X), .int .u64 (uv Y)] 132)) = w4 at O5 O6 B4 ⊢
       obtain ⟨q5, hq5⟩ : ∃ q5, w3.heap.size = q5 := ⟨_, rfl⟩
       rw [hq5] at O5 Hq5 ⊢
       clear hq5
       have x0 := O5.out.c0
       have x1 := O5.out.c1
       go_wp2_with fail
       refine (HNU.out w4 _ _).mono ?_
       rintro e w5 ⟨rfl, b5⟩
       have B5 := Lib.hid (B4.out.trans (b5.mono B4.out.size))
       have O7 := Lib.hid (O6.out.below b5 O6.out.lt)
       clear b5 B4 O5 O6 x0 x1
       dsimp only [jVal, numT]
       have zf := O7.out.frozen
       have z0 := O7.out.c0
       have z1 := O7.out.c1
       have z2 := O7.out.c2
       have z3 := O7.out.c3
       go_wp2_with fail
       have O4 := Ob.put4 O7.out (numT X Y)
       have B4 := below_put4 B5.out Hq3.out (.int .i64 1) (.int .u64 (uv X)) (.int .u64 (uv Y)) (.int .i64 0)
       try simp only [numT, j0, uv_zero] at O4 B4
       generalize (((w5.setCell ⟨q3, 0, none⟩ (.int .i64 1)).setCell ⟨q3, 1, none⟩ (.int .u64 (uv X))).setCell ⟨q3, 2, none⟩ (.int .u64 (uv Y))).setCell ⟨q3, 3, none⟩ (.int .i64 0) = wf at O4 B4 ⊢
       have s0 : wf.cell? ⟨q3, 0, none⟩ = some (.int .i64 1) := O4.cell 0
       have s1 : wf.cell? ⟨q3, 1, none⟩ = some (.int .u64 (uv X)) := O4.cell 1
       have s2 : wf.cell? ⟨q3, 2, none⟩ = some (.int .u64 (uv Y)) := O4.cell 2
       have s3 : wf.cell? ⟨q3, 3, none⟩ = some (.int .i64 0) := O4.cell 3
       exact bodyPost_ret (v := jVal (numT X Y)) (by simp [results, Tryz.results132, go_sem, jVal, numT, j0, uv_zero, s0, s1, s2, s3]) rfl ⟨by rw [HE.out] <;> first | done | rfl, B4⟩
     have HE := Lib.hid (show jnT ⟨ak, al, ah, am⟩ ⟨ak, bl, bh, am⟩ = ⟨ak, al, ah, am⟩ from (if_pos ⟨rfl, rfl⟩).trans (if_neg h1))
     have h1i : (ak == 1) = false := by simpa using h1
     go_wp2_with fail
     have O4 := Ob.put4 O3.out (⟨ak, al, ah, am⟩)
     have B4 := below_put4 B1.out Hq3.out (.int .i64 ak) (.int .u64 (uv al)) (.int .u64 (uv ah)) (.int .i64 am)
     try simp only [numT, j0, uv_zero] at O4 B4
     generalize (((w2.setCell ⟨q3, 0, none⟩ (.int .i64 ak)).setCell ⟨q3, 1, none⟩ (.int .u64 (uv al))).setCell ⟨q3, 2, none⟩ (.int .u64 (uv ah))).setCell ⟨q3, 3, none⟩ (.int .i64 am) = wf at O4 B4 ⊢
     have s0 : wf.cell? ⟨q3, 0, none⟩ = some (.int .i64 ak) := O4.cell 0
     have s1 : wf.cell? ⟨q3, 1, none⟩ = some (.int .u64 (uv al)) := O4.cell 1
     have s2 : wf.cell? ⟨q3, 2, none⟩ = some (.int .u64 (uv ah)) := O4.cell 2
     have s3 : wf.cell? ⟨q3, 3, none⟩ = some (.int .i64 am) := O4.cell 3
     exact bodyPost_ret (v := jVal (⟨ak, al, ah, am⟩)) (by simp [results, Tryz.results132, go_sem, jVal, numT, j0, uv_zero, s0, s1, s2, s3]) rfl ⟨by rw [HE.out] <;> first | done | rfl, B4⟩
   subst hk
   have HE := Lib.hid (show jnT ⟨ak, al, ah, am⟩ ⟨ak, bl, bh, bm⟩ = j0 from if_neg (fun h => hm h.2))
   have hmi : (am != bm) = true := by simpa using hm
   go_wp2_with fail
   have O4 := Ob.put4 O3.out (j0)
   have B4 := below_put4 B1.out Hq3.out (.int .i64 0) (.int .u64 0) (.int .u64 0) (.int .i64 0)
   try simp only [numT, j0, uv_zero] at O4 B4
   generalize (((w2.setCell ⟨q3, 0, none⟩ (.int .i64 0)).setCell ⟨q3, 1, none⟩ (.int .u64 0)).setCell ⟨q3, 2, none⟩ (.int .u64 0)).setCell ⟨q3, 3, none⟩ (.int .i64 0) = wf at O4 B4 ⊢
   have s0 : wf.cell? ⟨q3, 0, none⟩ = some (.int .i64 0) := O4.cell 0
   have s1 : wf.cell? ⟨q3, 1, none⟩ = some (.int .u64 0) := O4.cell 1
   have s2 : wf.cell? ⟨q3, 2, none⟩ = some (.int .u64 0) := O4.cell 2
   have s3 : wf.cell? ⟨q3, 3, none⟩ = some (.int .i64 0) := O4.cell 3
   exact bodyPost_ret (v := jVal (j0)) (by simp [results, Tryz.results132, go_sem, jVal, numT, j0, uv_zero, s0, s1, s2, s3]) rfl ⟨by rw [HE.out] <;> first | done | rfl, B4⟩
 have HE := Lib.hid (show jnT ⟨ak, al, ah, am⟩ ⟨bk, bl, bh, bm⟩ = j0 from if_neg (fun h => hk h.1))
 have hki : (ak != bk) = true := by simpa using hk
 go_wp2_with fail
 have O4 := Ob.put4 O3.out (j0)
 have B4 := below_put4 B1.out Hq3.out (.int .i64 0) (.int .u64 0) (.int .u64 0) (.int .i64 0)
 try simp only [numT, j0, uv_zero] at O4 B4
 generalize (((w2.setCell ⟨q3, 0, none⟩ (.int .i64 0)).setCell ⟨q3, 1, none⟩ (.int .u64 0)).setCell ⟨q3, 2, none⟩ (.int .u64 0)).setCell ⟨q3, 3, none⟩ (.int .i64 0) = wf at O4 B4 ⊢
 have s0 : wf.cell? ⟨q3, 0, none⟩ = some (.int .i64 0) := O4.cell 0
 have s1 : wf.cell? ⟨q3, 1, none⟩ = some (.int .u64 0) := O4.cell 1
 have s2 : wf.cell? ⟨q3, 2, none⟩ = some (.int .u64 0) := O4.cell 2
 have s3 : wf.cell? ⟨q3, 3, none⟩ = some (.int .i64 0) := O4.cell 3
 exact bodyPost_ret (v := jVal (j0)) (by simp [results, Tryz.results132, go_sem, jVal, numT, j0, uv_zero, s0, s1, s2, s3]) rfl ⟨by rw [HE.out] <;> first | done | rfl, B4⟩

/-- does a fit b? -/
def fitsV (a b : JT) : Bool := if b.k = 1 then (if a.k = 1 then Sp.withinB (uv a.lo) (uv a.hi) (uv b.lo) (uv b.hi) else false) else if b.k = 2 then decide (a = b) else true

theorem fits_any (w : World) (a b : JT) :
 Calls Tryz.prog 86 #[jVal a, jVal b] w fun e w' => e = .returned (.bool (fitsV a b)) ∧ Below w.heap.size w w' := by
 obtain ⟨ak, al, ah, am⟩ := a
 obtain ⟨bk, bl, bh, bm⟩ := b
 have HW := Lib.hid (fun w => Sp.within_any w (uv al) (uv ah) (uv bl) (uv bh))
 unfold jVal
 unfold Sp.spVal at HW
 dsimp only
 have B0 := Lib.hid (Below.refl w.heap.size w)
 go_enter Tryz.func86, Tryz.ntmps86
 go_upto_region 1 with fail
 have O1 := Lib.hid (Ob.alloc (Ob.fresh w 134 [.int .i64 ak, .int .u64 (uv al), .int .u64 (uv ah), .int .i64 am]) (.cells #[.int .i64 bk, .int .u64 (uv bl), .int .u64 (uv bh), .int .i64 bm] 134))
 have O2 := Lib.hid (Ob.fresh (w.alloc (.cells #[.int .i64 ak, .int .u64 (uv al), .int .u64 (uv ah), .int .i64 am] 134)) 134 [.int .i64 bk, .int .u64 (uv bl), .int .u64 (uv bh), .int .i64 bm])
 rw [show (w.alloc (.cells #[.int .i64 ak, .int .u64 (uv al), .int .u64 (uv ah), .int .i64 am] 134)).heap.size = w.heap.size + 1 by simp] at O2
 have B1 := Lib.hid (below_alloc (below_alloc (B0.out) (.cells #[.int .i64 ak, .int .u64 (uv al), .int .u64 (uv ah), .int .i64 am] 134)) (.cells #[.int .i64 bk, .int .u64 (uv bl), .int .u64 (uv bh), .int .i64 bm] 134))
 have Hq1 := Lib.hid (show w.heap.size ≤ w.heap.size by have := B0.out.size; omega)
 have Hq2 := Lib.hid (show w.heap.size ≤ w.heap.size + 1 by have := B0.out.size; omega)
 clear B0
 generalize ((w.alloc (.cells #[.int .i64 ak, .int .u64 (uv al), .int .u64 (uv ah), .int .i64 am] 134)).alloc (.cells #[.int .i64 bk, .int .u64 (uv bl), .int .u64 (uv bh), .int .i64 bm] 134)) = w2 at O1 O2 B1 ⊢
 obtain ⟨q2, hq2⟩ : ∃ q2, w.heap.size + 1 = q2 := ⟨_, rfl⟩
 rw [hq2] at O2 Hq2 ⊢
 clear hq2
 obtain ⟨q1, hq1⟩ : ∃ q1, w.heap.size = q1 := ⟨_, rfl⟩
 rw [hq1] at O1 Hq1 ⊢
 clear hq1
 have ca0 := O1.out.c0
 have ca1 := O1.out.c1
 have ca2 := O1.out.c2
 have ca3 := O1.out.c3
 have cb0 := O2.out.c0
 have cb1 := O2.out.c1
 have cb2 := O2.out.c2
 have cb3 := O2.out.c3
 by_cases h1 : bk = 1
 · subst h1
   by_cases h2 : ak = 1
   · subst h2
     obtain ⟨J, hJ⟩ : ∃ J, Sp.withinB (uv al) (uv ah) (uv bl) (uv bh) = J := ⟨_, rfl⟩
     have HE := Lib.hid (show fitsV ⟨1, al, ah, am⟩ ⟨1, bl, bh, bm⟩ = J from ((if_pos rfl).trans (if_pos rfl)).trans hJ)
     rw [hJ] at HW
     clear hJ
     go_wp2_with fail
     refine (HW.out w2).mono ?_
     rintro e w3 ⟨rfl, b3⟩
     have B3 := Lib.hid (B1.out.trans (b3.mono B1.out.size))
     clear b3
     cases J
     · go_wp2_with fail
       go_ret
       exact ⟨by rw [HE.out] <;> first | done | rfl, B3.out⟩
     go_wp2_with fail
     go_ret
     exact ⟨by rw [HE.out] <;> first | done | rfl, B3.out⟩
   have HE := Lib.hid (show fitsV ⟨ak, al, ah, am⟩ ⟨1, bl, bh, bm⟩ = false from (if_pos rfl).trans (if_neg h2))
   have h2i : (ak == 1) = false := by simpa using h2
   go_wp2_with fail
   go_ret
   exact ⟨by rw [HE.out] <;> first | done | rfl, B1.out⟩
 have h1i : (bk == 1) = false := by simpa using h1
 by_cases h2 : bk = 2
 · subst h2
   by_cases h3 : (⟨ak, al, ah, am⟩ : JT) = ⟨2, bl, bh, bm⟩
   · have HE := Lib.hid (show fitsV ⟨ak, al, ah, am⟩ ⟨2, bl, bh, bm⟩ = true from ((if_neg h1).trans (if_pos rfl)).trans (decide_eq_true h3))
     injection h3 with e1 e2 e3 e4
     subst e1
     subst e2
     subst e3
     subst e4
     go_wp2_with fail
     go_ret
     exact ⟨by rw [HE.out] <;> first | done | rfl, B1.out⟩
   have HE := Lib.hid (show fitsV ⟨ak, al, ah, am⟩ ⟨2, bl, bh, bm⟩ = false from ((if_neg h1).trans (if_pos rfl)).trans (decide_eq_false h3))
   go_wp2_with fail
   all_goals
    first
    | (exfalso; apply h3; (try rename_i e1 e2 e3 e4; subst e1); simp_all [uv_inj]; done)
    | (go_ret; refine ⟨?_, B1.out⟩; rw [HE.out]; rfl)
 have h2i : (bk == 2) = false := by simpa using h2
 have HE := Lib.hid (show fitsV ⟨ak, al, ah, am⟩ ⟨bk, bl, bh, bm⟩ = true from (if_neg h1).trans (if_neg h2))
 go_wp2_with fail
 go_ret
 exact ⟨by rw [HE.out] <;> first | done | rfl, B1.out⟩

end Go.Proofs.YtikkmkomlajnfaaGreatDoor.Jd
end
