/-
  What a call may have touched: a set of blocks; what keeps its reading. Conditions: none.
  Plain laws on words of 64 bits for the layer arith: what the reference does bit by bit is +, -, *, /, %. Conditions: none.
  Layer 2: the table of forms, as the row lays it; of, uses. Conditions: those of each theorem.
  Layer 2: is an instruction right? Conditions: those of each theorem.
-/
import Derived.Test.YtikkmkomlajnfaaGreatDoorWm01
import Derived.Test.YtikkmkomlajnfaaGreatDoorChecked
import Derived.LoopTactic
import Derived.LoopN
import Derived.BigRegion
import Derived.BigQuiet
import Derived.Deep.RegionWith
import Derived.Deep.RegionHeld3
import Derived.Deep.DeepCutAuto
set_option linter.unusedVariables false
set_option linter.unusedSimpArgs false
section
namespace Go.Proofs.YtikkmkomlajnfaaGreatDoor
open Go.RowKit

/-- nothing that stood there has changed but the blocks of S -/
structure Tch (S : Nat → Prop) (w w' : World) : Prop where
 os : w'.os = w.os
 tape : w'.tape = w.tape
 output : w'.output = w.output
 size : w.heap.size ≤ w'.heap.size
 block : ∀ k, k < w.heap.size → ¬ S k → w'.heap[k]? = w.heap[k]?

section
variable {S S' : Nat → Prop} {a b c w w' : World}
theorem Tch.refl (S : Nat → Prop) (w : World) : Tch S w w := ⟨rfl, rfl, rfl, Nat.le_refl _, fun _ _ _ => rfl⟩
theorem Tch.trans (h : Tch S a b) (k : Tch S b c) : Tch S a c :=
 ⟨k.os.trans h.os, k.tape.trans h.tape, k.output.trans h.output, Nat.le_trans h.size k.size, fun i hi hn => (k.block i (Nat.lt_of_lt_of_le hi h.size) hn).trans (h.block i hi hn)⟩
/-- two steps: what the second touches and the first has not made is touched -/
theorem Tch.then {S1 S2 : Nat → Prop} (h : Tch S1 a b) (k : Tch S2 b c) (h1 : ∀ i, S1 i → S i) (h2 : ∀ i, S2 i → i < a.heap.size → S i) : Tch S a c :=
 ⟨k.os.trans h.os, k.tape.trans h.tape, k.output.trans h.output, Nat.le_trans h.size k.size, fun i hi hn => (k.block i (Nat.lt_of_lt_of_le hi h.size) (fun hs => hn (h2 i hs hi))).trans (h.block i hi (fun hs => hn (h1 i hs)))⟩
theorem Tch.mono (h : Tch S a b) (hs : ∀ i, S i → S' i) : Tch S' a b := ⟨h.os, h.tape, h.output, h.size, fun i hi hn => h.block i hi fun hi' => hn (hs i hi')⟩
theorem Tch.of_grown {row : Option Nat} (h : a.grownBy b row) : Tch (fun i => row = some i) a b := ⟨h.os, h.tape, h.output, h.size, fun i hi hn => h.block i hi fun e => hn e.symm⟩
theorem Tch.of_only {g : Nat} (h : Only a b g) : Tch (fun i => i = g) a b := ⟨h.os, h.tape, h.output, h.size, fun i hi hn => h.block i hi fun e => hn (Option.some.inj e)⟩
theorem Tch.of_below (h : Below a.heap.size a b) : Tch S a b := ⟨h.os, h.tape, h.output, h.size, fun i hi _ => h.block i hi⟩
theorem Tch.setCell (h : Tch S a b) {p : Addr} (hp : S p.block) (u : Value) : Tch S a (b.setCell p u) :=
 ⟨h.os, h.tape, h.output, by simpa [World.setCell] using h.size, fun i hi hn => (Below.heap_setCell b p u i (by rintro rfl; exact hn hp)).trans (h.block i hi hn)⟩
theorem Tch.drewN (h : Tch S a b) (n : Nat) : Tch S a (b.drewN n) := ⟨h.os, h.tape, h.output, h.size, h.block⟩
theorem Tch.drew (h : Tch S a b) : Tch S a b.drew := ⟨h.os, h.tape, h.output, h.size, h.block⟩
theorem Tch.below {B : Nat} {w0 : World} (k : Tch S w w') (h : Below B w0 w) (hB : B ≤ w.heap.size) (hS : ∀ i, i < B → ¬ S i) : Below B w0 w' :=
 ⟨k.os.trans h.os, k.tape.trans h.tape, k.output.trans h.output, Nat.le_trans h.size k.size, fun i hi => (k.block i (Nat.lt_of_lt_of_le hi hB) (hS i hi)).trans (h.block i hi)⟩

theorem Ob.tch {g : Nat} {t : TypeId} {cs : List Value} (h : Ob w g t cs) (k : Tch S w w') (hn : ¬ S g) : Ob w' g t cs := (k.block g h.lt hn).trans h
theorem own_tch {B : Nat} {e : TypeId} {size : Nat} {v : Value} {n : Nat} {xs : List Value} (h : w.ownsRow B e size v n xs) (k : Tch S w w') (hn : ∀ i, v.ownBlock = some i → ¬ S i) : w'.ownsRow B e size v n xs := by
 refine ⟨h.1, ?_⟩
 rcases h.2 with h0 | ⟨g, cap, cur, hv, hb, hg, rest⟩
 · exact .inl h0
 have hlt : g < w.heap.size := (Array.getElem?_eq_some_iff.1 hg).1
 exact .inr ⟨g, cap, cur, hv, hb, (k.block g hlt (hn g (by rw [hv]; rfl))).trans hg, rest⟩
end

theorem own_typed {w : World} {B : Nat} {e T : TypeId} {size : Nat} {v : Value} {n : Nat} {xs cs : List Value} {g : Nat} (h : w.ownsRow B e size v n xs) (ho : Ob w g T cs) (hT : e ≠ T) : v.ownBlock ≠ some g := by
 intro hv
 rcases h.2 with ⟨rfl, _⟩ | ⟨g', cap, cur, rfl, _, hg, _⟩
 · cases hv
 injection hv with hv
 subst hv
 have h1 : w.heap[g']? = some (.cells cs.toArray T (0, 0)) := ho
 rw [hg] at h1
 injection h1 with h1
 injection h1 with _ h2
 exact hT h2
theorem own_apart {w : World} {B B' : Nat} {e e' : TypeId} {size size' : Nat} {v v' : Value} {n n' : Nat} {xs xs' : List Value} (h : w.ownsRow B e size v n xs) (h' : w.ownsRow B' e' size' v' n' xs') (hT : e ≠ e') : ∀ g, v.ownBlock = some g → v'.ownBlock ≠ some g := by
 intro g hv hv'
 rcases h.2 with ⟨rfl, _⟩ | ⟨g1, cap, cur, rfl, _, hg, _⟩
 · cases hv
 injection hv with hv
 subst hv
 rcases h'.2 with ⟨rfl, _⟩ | ⟨g', cap', cur', rfl, _, hg', _⟩
 · cases hv'
 injection hv' with hv'
 subst hv'
 rw [hg] at hg'
 injection hg' with hg'
 injection hg' with _ h2
 exact hT h2

end Go.Proofs.YtikkmkomlajnfaaGreatDoor
end

section
namespace Go.Proofs.YtikkmkomlajnfaaGreatDoor.AM

/-- what an operation makes of two numbers, and is there such an operation? -/
def doV (op : Int) (a b : BitVec 64) : BitVec 64 :=
 if op = 1 then a + b else if op = 2 then a - b else if op = 3 then a * b else if op = 4 then a / b else if op = 5 then a % b
 else if op = 6 then a &&& b else if op = 7 then a ||| b else if op = 8 then a ^^^ b else if op = 9 then a <<< b.toNat else if op = 10 then a >>> b.toNat else 0#64
def doOk (op : Int) : Bool := decide (1 ≤ op ∧ op ≤ 10)

theorem op_cases (op : Int) : op = 1 ∨ op = 2 ∨ op = 3 ∨ op = 4 ∨ op = 5 ∨ op = 6 ∨ op = 7 ∨ op = 8 ∨ op = 9 ∨ op = 10 ∨ (op < 1 ∨ 10 < op) := by omega
theorem doV_out {op : Int} (h : op < 1 ∨ 10 < op) (a b : BitVec 64) : doV op a b = 0#64 := by
 unfold doV
 repeat (rw [if_neg (by omega)])
theorem doOk_out {op : Int} (h : op < 1 ∨ 10 < op) : doOk op = false := by unfold doOk; simp; omega

/-- does a condition hold, and is there such a condition? -/
def hdV (op : Int) (a b : BitVec 64) : Bool :=
 if op = 16 then decide (a = b) else if op = 17 then !decide (a = b) else if op = 18 then decide (a.toNat < b.toNat) else if op = 19 then !decide (a.toNat < b.toNat) else false
def hdOk (op : Int) : Bool := decide (16 ≤ op ∧ op ≤ 19)
theorem hop_cases (op : Int) : op = 16 ∨ op = 17 ∨ op = 18 ∨ op = 19 ∨ (op < 16 ∨ 19 < op) := by omega
theorem hdV_out {op : Int} (h : op < 16 ∨ 19 < op) (a b : BitVec 64) : hdV op a b = false := by
 unfold hdV
 repeat (rw [if_neg (by omega)])
theorem hdOk_out {op : Int} (h : op < 16 ∨ 19 < op) : hdOk op = false := by unfold hdOk; simp; omega

end Go.Proofs.YtikkmkomlajnfaaGreatDoor.AM
end

section
namespace Go.Proofs.YtikkmkomlajnfaaGreatDoor.Op
set_option maxRecDepth 100000
set_option maxHeartbeats 1000000
open Go.RowKit

/-- the table: names, fields; 23: none -/
def nmO : Nat → ByteArray
 | 0 => ⟨#[115, 101, 116]⟩
 | 1 => ⟨#[97, 100, 100]⟩
 | 2 => ⟨#[115, 117, 98]⟩
 | 3 => ⟨#[109, 117, 108]⟩
 | 4 => ⟨#[100, 105, 118]⟩
 | 5 => ⟨#[114, 101, 109]⟩
 | 6 => ⟨#[97, 110, 100]⟩
 | 7 => ⟨#[111, 114]⟩
 | 8 => ⟨#[120, 111, 114]⟩
 | 9 => ⟨#[115, 104, 108]⟩
 | 10 => ⟨#[115, 104, 114]⟩
 | 11 => ⟨#[108, 111, 97, 100]⟩
 | 12 => ⟨#[115, 116, 111, 114, 101]⟩
 | 13 => ⟨#[102, 105, 101, 108, 100]⟩
 | 14 => ⟨#[109, 97, 112]⟩
 | 15 => ⟨#[106, 117, 109, 112]⟩
 | 16 => ⟨#[106, 101, 113]⟩
 | 17 => ⟨#[106, 110, 101]⟩
 | 18 => ⟨#[106, 108, 116]⟩
 | 19 => ⟨#[106, 103, 101]⟩
 | 20 => ⟨#[108, 111, 111, 112]⟩
 | 21 => ⟨#[99, 97, 108, 108]⟩
 | 22 => ⟨#[101, 120, 105, 116]⟩
 | _ => ⟨#[]⟩
def fdO : Nat → ByteArray
 | 0 => ⟨#[100, 115]⟩
 | 1 => ⟨#[100, 97, 115]⟩
 | 2 => ⟨#[100, 97, 115]⟩
 | 3 => ⟨#[100, 97, 115]⟩
 | 4 => ⟨#[100, 97, 115]⟩
 | 5 => ⟨#[100, 97, 115]⟩
 | 6 => ⟨#[100, 97, 115]⟩
 | 7 => ⟨#[100, 97, 115]⟩
 | 8 => ⟨#[100, 97, 115]⟩
 | 9 => ⟨#[100, 97, 115]⟩
 | 10 => ⟨#[100, 97, 115]⟩
 | 11 => ⟨#[100, 115]⟩
 | 12 => ⟨#[97, 115]⟩
 | 13 => ⟨#[100, 102]⟩
 | 14 => ⟨#[100, 109]⟩
 | 15 => ⟨#[106]⟩
 | 16 => ⟨#[106, 97, 115]⟩
 | 17 => ⟨#[106, 97, 115]⟩
 | 18 => ⟨#[106, 97, 115]⟩
 | 19 => ⟨#[106, 97, 115]⟩
 | 20 => ⟨#[98, 97, 110]⟩
 | 21 => ⟨#[104]⟩
 | 22 => ⟨#[97]⟩
 | _ => ⟨#[]⟩
def frm (y : Nat) : List Value := [.string (nmO y), .string (fdO y)]
/-- the table stands in its block -/
def frmL : List Value := frm 0 ++ frm 1 ++ frm 2 ++ frm 3 ++ frm 4 ++ frm 5 ++ frm 6 ++ frm 7 ++ frm 8 ++ frm 9 ++ frm 10 ++ frm 11 ++ frm 12 ++ frm 13 ++ frm 14 ++ frm 15 ++ frm 16 ++ frm 17 ++ frm 18 ++ frm 19 ++ frm 20 ++ frm 21 ++ frm 22
def Frm (w : World) : Prop := ∃ t fr, w.heap[0]? = some (.cells frmL.toArray t fr)
theorem Frm.lt {w : World} (h : Frm w) : 0 < w.heap.size := by
 obtain ⟨t, fr, h⟩ := h
 exact (Array.getElem?_eq_some_iff.1 h).1
theorem Frm.below {w w' : World} (h : Frm w) (hb : Below w.heap.size w w') : Frm w' := by
 have hl := h.lt
 obtain ⟨t, fr, h⟩ := h
 exact ⟨t, fr, (hb.block _ hl).trans h⟩
theorem y_cases {y : Nat} (hy : y < 23) : y = 0 ∨ y = 1 ∨ y = 2 ∨ y = 3 ∨ y = 4 ∨ y = 5 ∨ y = 6 ∨ y = 7 ∨ y = 8 ∨ y = 9 ∨ y = 10 ∨ y = 11 ∨ y = 12 ∨ y = 13 ∨ y = 14 ∨ y = 15 ∨ y = 16 ∨ y = 17 ∨ y = 18 ∨ y = 19 ∨ y = 20 ∨ y = 21 ∨ y = 22 := by omega
theorem frmL_get : ∀ y, y < 23 → ∀ j, j < 2 → frmL[y * 2 + j]? = some ((frm y).getD j undef) := by
 intro y hy j hj
 have h2 : j = 0 ∨ j = 1 := by omega
 rcases y_cases hy with rfl | rfl | rfl | rfl | rfl | rfl | rfl | rfl | rfl | rfl | rfl | rfl | rfl | rfl | rfl | rfl | rfl | rfl | rfl | rfl | rfl | rfl | rfl <;> rcases h2 with rfl | rfl <;> rfl
theorem Frm.at_ {w : World} (h : Frm w) (y : Nat) (hy : y < 23) (j : Nat) (hj : j < 2) : w.cell? ⟨0, y * 2 + j, none⟩ = some ((frm y).getD j undef) := by
 obtain ⟨t, fr, h⟩ := h
 rw [cell_of_row w _ _ _ t fr h, ← frmL_get y hy j hj]
 simp
def oI (h : Int) : Nat := if 0 ≤ h ∧ h < 23 then h.toNat else 23
theorem oI_nat {y : Nat} (hy : y < 23) : oI (y : Int) = y := by unfold oI; rw [if_pos (by omega)]; omega
theorem oI_out {h : Int} (hh : h < 0 ∨ 23 ≤ h) : oI h = 23 := by unfold oI; rw [if_neg (by omega)]
theorem oI_le (h : Int) : oI h ≤ 23 := by unfold oI; split <;> omega
theorem o_cases (h : Int) : (∃ y : Nat, h = (y : Int) ∧ y < 23) ∨ h < 0 ∨ (¬ h < 0 ∧ 23 ≤ h) := by
 by_cases hh : 0 ≤ h ∧ h < 23
 · exact .inl ⟨h.toNat, by omega, by omega⟩
 exact .inr (by omega)
def fmVal (y : Nat) : Value := .agg #[.string (nmO y), .string (fdO y)]

theorem of_any (w : World) (h : Int) (ht : Frm w) :
 Calls Tryz.prog 63 #[.int .i64 h] w fun e w' => e = .returned (.tuple #[fmVal (oI h), .bool (decide (oI h < 23))]) ∧ Below w.heap.size w w' := by
 rcases o_cases h with ⟨y, rfl, hy⟩ | h0 | ⟨h0, h1⟩
 · rw [oI_nat hy, decide_eq_true hy]
   have f0 : w.cell? ⟨0, y * 2, none⟩ = some (.string (nmO y)) := ht.at_ y hy 0 (by omega)
   have f1 : w.cell? ⟨0, y * 2 + 1, none⟩ = some (.string (fdO y)) := ht.at_ y hy 1 (by omega)
   have hlt := ht.lt
   unfold fmVal
   clear ht
   generalize nmO y = a0 at f0 ⊢
   generalize fdO y = a1 at f1 ⊢
   have g1 : (y : Int) < 23 := by omega
   have HO := Lib.hid (Ob.fresh w 158 [.string a0, .string a1])
   have HB := Lib.hid (below_alloc (Below.refl w.heap.size w) (.cells #[.string a0, .string a1] 158))
   go_enter Tryz.func63, Tryz.ntmps63
   go_wp2_with fail
   generalize w.alloc (.cells #[.string a0, .string a1] 158) = w2 at HO HB ⊢
   have s0 : w2.cell? ⟨w.heap.size, 0, none⟩ = some (.string a0) := HO.out.cell 0
   have s1 : w2.cell? ⟨w.heap.size, 1, none⟩ = some (.string a1) := HO.out.cell 1
   exact bodyPost_ret (v := .tuple #[.agg #[.string a0, .string a1], .bool true]) (by simp [results, Tryz.results63, go_sem, s0, s1]) rfl ⟨rfl, HB.out⟩
 · rw [oI_out (.inl h0)]
   clear ht
   have HO := Lib.hid (Ob.fresh w 158 [.string ⟨#[]⟩, .string ⟨#[]⟩])
   have HB := Lib.hid (below_alloc (Below.refl w.heap.size w) (.cells #[.string ⟨#[]⟩, .string ⟨#[]⟩] 158))
   go_enter Tryz.func63, Tryz.ntmps63
   go_wp2_with fail
   generalize w.alloc (.cells #[.string ⟨#[]⟩, .string ⟨#[]⟩] 158) = w2 at HO HB ⊢
   have s0 : w2.cell? ⟨w.heap.size, 0, none⟩ = some (.string ⟨#[]⟩) := HO.out.cell 0
   have s1 : w2.cell? ⟨w.heap.size, 1, none⟩ = some (.string ⟨#[]⟩) := HO.out.cell 1
   exact bodyPost_ret (v := .tuple #[.agg #[.string ⟨#[]⟩, .string ⟨#[]⟩], .bool false]) (by simp [results, Tryz.results63, go_sem, s0, s1]) rfl ⟨rfl, HB.out⟩
 rw [oI_out (.inr h1)]
 clear ht
 have HO := Lib.hid (Ob.fresh w 158 [.string ⟨#[]⟩, .string ⟨#[]⟩])
 have HB := Lib.hid (below_alloc (Below.refl w.heap.size w) (.cells #[.string ⟨#[]⟩, .string ⟨#[]⟩] 158))
 go_enter Tryz.func63, Tryz.ntmps63
 go_wp2_with fail
 generalize w.alloc (.cells #[.string ⟨#[]⟩, .string ⟨#[]⟩] 158) = w2 at HO HB ⊢
 have s0 : w2.cell? ⟨w.heap.size, 0, none⟩ = some (.string ⟨#[]⟩) := HO.out.cell 0
 have s1 : w2.cell? ⟨w.heap.size, 1, none⟩ = some (.string ⟨#[]⟩) := HO.out.cell 1
 exact bodyPost_ret (v := .tuple #[.agg #[.string ⟨#[]⟩, .string ⟨#[]⟩], .bool false]) (by simp [results, Tryz.results63, go_sem, s0, s1]) rfl ⟨rfl, HB.out⟩

/-- has the string that byte? -/
def usesB (f : ByteArray) (c : Nat) : Bool := f.data.toList.any fun b => b.toNat == c
theorem usesB_yes {f : ByteArray} {c k : Nat} (hk : k < f.size) (h : f[k].toNat = c) : usesB f c = true := by
 unfold usesB
 rw [List.any_eq_true]
 exact ⟨f[k], Array.getElem_mem_toList (xs := f.data) hk, by simpa using h⟩
theorem usesB_no {f : ByteArray} {c : Nat} (h : ∀ j (hj : j < f.size), f[j].toNat ≠ c) : usesB f c = false := by
 unfold usesB
 rw [List.any_eq_false]
 intro b hb
 obtain ⟨j, hj, e⟩ := List.getElem_of_mem hb
 have hj2 : j < f.size := by simpa using hj
 have := h j hj2
 simp only [beq_iff_eq]
 intro e2
 apply this
 rw [← e2, ← e]
 rfl

theorem uses_any (w : World) (a f : ByteArray) (c : Nat) (hf : f.size ≤ 3) :
 Calls Tryz.prog 119 #[.agg #[.string a, .string f], .int .u8 c] w fun e w' => e = .returned (.bool (usesB f c)) ∧ Below w.heap.size w w' := by
 have HO := Lib.hid (Ob.fresh w 158 [.string a, .string f])
 have HB := Lib.hid (below_alloc (Below.refl w.heap.size w) (.cells #[.string a, .string f] 158))
 go_enter Tryz.func119, Tryz.ntmps119
 go_upto_region 1 with fail
 generalize w.alloc (.cells #[.string a, .string f] 158) = w2 at HO HB ⊢
 obtain ⟨q, hq⟩ : ∃ q, w.heap.size = q := ⟨_, rfl⟩
 rw [hq] at HO ⊢
 clear hq
 have s1 := HO.out.c1
 go_wp2_with fail
 go_loop [9] (fun i => ∃ k : Nat, k ≤ f.size ∧ i = .int .i64 k ∧ ∀ j (hj : j < f.size), j < k → f[j].toNat ≠ c) (fun i => f.size - (intOf i).toNat)
 case atStart => exact ⟨0, Nat.zero_le _, rfl, fun j _ hj => absurd hj (Nat.not_lt_zero _)⟩
 case round =>
  obtain ⟨k, hk, rfl, hj⟩ := hrel
  have HJ := Lib.hid hj
  clear hj
  by_cases hlt : k < f.size
  · have g1 : (k : Int) < (f.size : Int) := by omega
    have g0 : (0 : Int) ≤ (k : Int) := by omega
    have g4 : wrap64 ((k : Int) + 1) = (k : Int) + 1 := by unfold wrap64; omega
    by_cases hc : f[k].toNat = c
    · have HC := Lib.hid (usesB_yes hlt hc)
      have g2 : ((f[k].toNat : Int) == (c : Int)) = true := by rw [hc]; exact beq_self_eq_true _
      clear hc
      go_wp2_with fail
      go_ret
      exact ⟨by rw [HC.out] <;> first | done | rfl, HB.out⟩
    have g2 : ((f[k].toNat : Int) == (c : Int)) = false := by
     rw [beq_eq_false_iff_ne]; omega
    have HC := Lib.hid hc
    clear hc
    go_wp2_with fail
    refine ⟨⟨k + 1, by omega, by go_num, fun j hj2 hj => ?_⟩, by simp [intOf]; omega⟩
    by_cases e : j = k
    · subst e; exact HC.out
    exact HJ.out j hj2 (by omega)
  have g1 : ¬ (k : Int) < (f.size : Int) := by omega
  have HC := Lib.hid (usesB_no fun j hj => HJ.out j hj (by omega))
  go_wp2_with fail
  go_ret
  exact ⟨by rw [HC.out] <;> first | done | rfl, HB.out⟩

end Go.Proofs.YtikkmkomlajnfaaGreatDoor.Op
end

section
namespace Go.Proofs.YtikkmkomlajnfaaGreatDoor.Op
set_option maxRecDepth 100000
set_option maxHeartbeats 8000000
open Go.RowKit

/-- an instruction -/
structure InstV where
 op : Int
 d : Int
 a : Int
 b : Int
 m : Int
def insc (i : InstV) : List Value := [.int .i64 i.op, .int .i64 i.d, .int .i64 i.a, .int .i64 i.b, .int .i64 i.m]
def insVal (i : InstV) : Value := .agg #[.int .i64 i.op, .int .i64 i.d, .int .i64 i.a, .int .i64 i.b, .int .i64 i.m]

def regB (n : Int) : Bool := decide (0 ≤ n ∧ n < 8)
def wiB (n lo hi : Int) : Bool := decide (lo ≤ n ∧ n ≤ hi)

theorem register_any (w : World) (n : Int) : Calls Tryz.prog 64 #[.int .i64 n] w fun e w' => e = .returned (.bool (regB n)) ∧ w = w' := by
 by_cases h1 : 0 ≤ n
 · by_cases h2 : n < 8
   · have HR := Lib.hid (show regB n = true from decide_eq_true ⟨h1, h2⟩)
     go_enter Tryz.func64, Tryz.ntmps64
     go_wp2_with fail
     go_ret
     exact ⟨by rw [HR.out] <;> first | done | rfl, rfl⟩
   have HR := Lib.hid (show regB n = false from decide_eq_false fun h => h2 h.2)
   go_enter Tryz.func64, Tryz.ntmps64
   go_wp2_with fail
   go_ret
   exact ⟨by rw [HR.out] <;> first | done | rfl, rfl⟩
 have HR := Lib.hid (show regB n = false from decide_eq_false fun h => h1 h.1)
 go_enter Tryz.func64, Tryz.ntmps64
 go_wp2_with fail
 go_ret
 exact ⟨by rw [HR.out] <;> first | done | rfl, rfl⟩
theorem within_any (w : World) (n lo hi : Int) : Calls Tryz.prog 65 #[.int .i64 n, .int .i64 lo, .int .i64 hi] w fun e w' => e = .returned (.bool (wiB n lo hi)) ∧ w = w' := by
 by_cases h1 : lo ≤ n
 · by_cases h2 : n ≤ hi
   · have HR := Lib.hid (show wiB n lo hi = true from decide_eq_true ⟨h1, h2⟩)
     go_enter Tryz.func65, Tryz.ntmps65
     go_wp2_with fail
     go_ret
     exact ⟨by rw [HR.out] <;> first | done | rfl, rfl⟩
   have HR := Lib.hid (show wiB n lo hi = false from decide_eq_false fun h => h2 h.2)
   go_enter Tryz.func65, Tryz.ntmps65
   go_wp2_with fail
   go_ret
   exact ⟨by rw [HR.out] <;> first | done | rfl, rfl⟩
 have HR := Lib.hid (show wiB n lo hi = false from decide_eq_false fun h => h1 h.1)
 go_enter Tryz.func65, Tryz.ntmps65
 go_wp2_with fail
 go_ret
 exact ⟨by rw [HR.out] <;> first | done | rfl, rfl⟩

/-- what is left to be 0, and is all right so far? -/
structure RSt where
 ok : Bool
 d : Int
 a : Int
 b : Int
 m : Int
def rst (i : InstV) (s : RSt) (c : Nat) : RSt :=
 if c = 100 then { s with ok := s.ok && regB i.d, d := 0 }
 else if c = 97 then { s with ok := s.ok && regB i.a, a := 0 }
 else if c = 115 then (if i.b = 8 then { s with b := 0, m := 0 } else { s with ok := s.ok && regB i.b, b := 0 })
 else if c = 102 then { s with ok := s.ok && wiB i.m 0 1, m := 0 }
 else if c = 109 then { s with ok := s.ok && wiB i.m 0 3, m := 0 }
 else if c = 104 then { s with ok := s.ok && wiB i.m 0 6, m := 0 }
 else if c = 110 then { s with ok := s.ok && wiB i.m 1 255, m := 0 }
 else if c = 106 then { s with ok := s.ok && wiB i.d 0 63, d := 0 }
 else if c = 98 then { s with ok := s.ok && wiB i.d 1 63, d := 0 }
 else s
def bys (f : ByteArray) : List Nat := f.data.toList.map fun b => b.toNat
theorem bys_take {f : ByteArray} {k : Nat} (h : k < f.size) : (bys f).take (k + 1) = (bys f).take k ++ [f[k].toNat] := by
 have hl : k < (bys f).length := by unfold bys; simpa using h
 rw [List.take_succ_eq_append_getElem hl]
 have e : (bys f)[k]'hl = f[k].toNat := by
  simp only [bys, List.getElem_map, Array.getElem_toList]; rfl
 rw [e]
def rs0 (i : InstV) : RSt := ⟨true, i.d, i.a, i.b, i.m⟩
def rsk (i : InstV) (f : ByteArray) (k : Nat) : RSt := ((bys f).take k).foldl (rst i) (rs0 i)
theorem rsk_succ {i : InstV} {f : ByteArray} {k : Nat} (h : k < f.size) : rsk i f (k + 1) = rst i (rsk i f k) f[k].toNat := by
 unfold rsk
 rw [bys_take h, List.foldl_append]; rfl
def RSt.good (s : RSt) : Bool := s.ok && decide (s.d = 0 ∧ s.a = 0 ∧ s.b = 0 ∧ s.m = 0)
/-- is it right? -/
def rightV (i : InstV) : Bool := decide (oI i.op < 23) && (rsk i (fdO (oI i.op)) (fdO (oI i.op)).size).good
theorem fd_le (y : Nat) : (fdO y).size ≤ 3 := by
 by_cases h : y < 23
 · rcases y_cases h with rfl | rfl | rfl | rfl | rfl | rfl | rfl | rfl | rfl | rfl | rfl | rfl | rfl | rfl | rfl | rfl | rfl | rfl | rfl | rfl | rfl | rfl | rfl <;> decide
 unfold fdO
 split <;> first | omega | decide

/-- what is so in the loop -/
structure RAt (w0 w : World) (q1 q3 q5 : Nat) (i : InstV) (nm fd : ByteArray) (s : RSt) : Prop where
 i : Ob w q1 59 (insc i)
 f : Ob w q3 158 [.string nm, .string fd]
 l : Ob w q5 59 [.int .i64 0, .int .i64 s.d, .int .i64 s.a, .int .i64 s.b, .int .i64 s.m]
 bel : Below w0.heap.size w0 w

theorem right_any (w : World) (i : InstV) (ht : Frm w) :
 Calls Tryz.prog 34 #[insVal i] w fun e w' => e = .returned (.bool (rightV i)) ∧ Below w.heap.size w w' := by
 obtain ⟨V, hV⟩ : ∃ V, rightV i = V := ⟨_, rfl⟩
 rw [hV]
 have HV := Lib.hid hV
 clear hV
 have HT := Lib.hid ht
 clear ht
 obtain ⟨op, d, a, b, m⟩ := i
 unfold insVal
 have O1 := Lib.hid (Ob.fresh w 59 [.int .i64 op, .int .i64 d, .int .i64 a, .int .i64 b, .int .i64 m])
 have B1 := Lib.hid (below_alloc (Below.refl w.heap.size w) (.cells #[.int .i64 op, .int .i64 d, .int .i64 a, .int .i64 b, .int .i64 m] 59))
 have HOF := Lib.hid (fun w ht => of_any w op ht)
 have HFS := Lib.hid (fd_le (oI op))
 unfold fmVal at HOF
 obtain ⟨nm, hnm⟩ : ∃ nm, nmO (oI op) = nm := ⟨_, rfl⟩
 obtain ⟨fd, hfd⟩ : ∃ fd, fdO (oI op) = fd := ⟨_, rfl⟩
 rw [hfd] at HFS
 rw [hnm, hfd] at HOF
 have HFD := Lib.hid hfd
 clear hnm hfd
 go_enter Tryz.func34, Tryz.ntmps34
 go_upto_region 1 with fail
 generalize w.alloc (.cells #[.int .i64 op, .int .i64 d, .int .i64 a, .int .i64 b, .int .i64 m] 59) = w2 at O1 B1 ⊢
 obtain ⟨q1, hq⟩ : ∃ q, w.heap.size = q := ⟨_, rfl⟩
 rw [hq] at O1 ⊢
 clear hq
 have i0 := O1.out.c0
 go_wp2_with fail
 refine (HOF.out w2 (HT.out.below B1.out)).mono ?_
 rintro e w3 ⟨rfl, b3⟩
 have O3 := Lib.hid ((O1.out.below b3 O1.out.lt).alloc (.cells #[.string nm, .string fd] 158))
 have F3 := Lib.hid (Ob.fresh w3 158 [.string nm, .string fd])
 have B3 := Lib.hid (below_alloc (B1.out.trans (b3.mono B1.out.size)) (.cells #[.string nm, .string fd] 158))
 clear b3 O1 B1 i0 HT HOF
 go_upto_region 2 with fail
 generalize w3.alloc (.cells #[.string nm, .string fd] 158) = w4 at O3 F3 B3 ⊢
 generalize w3.heap.size = q3 at F3 ⊢
 by_cases hop : oI op < 23
 · have HV := Lib.hid (show (rsk ⟨op, d, a, b, m⟩ fd fd.size).good = V by rw [← HV.out]; unfold rightV; dsimp only; rw [HFD.out, decide_eq_true hop, Bool.true_and])
   rw [decide_eq_true hop]
   clear hop
   go_upto_region 5 with fail
   have O4 := Lib.hid (O3.out.alloc (.cells #[.int .i64 0, .int .i64 0, .int .i64 0, .int .i64 0, .int .i64 0] 59))
   have F4 := Lib.hid (F3.out.alloc (.cells #[.int .i64 0, .int .i64 0, .int .i64 0, .int .i64 0, .int .i64 0] 59))
   have L4 := Lib.hid (Ob.fresh w4 59 [.int .i64 0, .int .i64 0, .int .i64 0, .int .i64 0, .int .i64 0])
   have B4 := Lib.hid (below_alloc B3.out (.cells #[.int .i64 0, .int .i64 0, .int .i64 0, .int .i64 0, .int .i64 0] 59))
   have H15 := Lib.hid (show q1 ≠ w4.heap.size from Nat.ne_of_lt O3.out.lt)
   have H35 := Lib.hid (show q3 ≠ w4.heap.size from Nat.ne_of_lt F3.out.lt)
   have H5 := Lib.hid (show w.heap.size ≤ w4.heap.size from B3.out.size)
   clear O3 F3 B3
   generalize w4.alloc (.cells #[.int .i64 0, .int .i64 0, .int .i64 0, .int .i64 0, .int .i64 0] 59) = w5 at O4 F4 L4 B4 ⊢
   generalize w4.heap.size = q5 at L4 H15 H35 H5 ⊢
   go_cut [5] (fun s w' => s = .pointer (some ⟨q5, 0, none⟩) ∧ RAt w w' q1 q3 q5 ⟨op, d, a, b, m⟩ nm fd (rs0 ⟨op, d, a, b, m⟩))
   case first =>
    have i0 := O4.out.c0
    have i1 := O4.out.c1
    have i2 := O4.out.c2
    have i3 := O4.out.c3
    have i4 := O4.out.c4
    have l0 := L4.out.c0
    have l1 := L4.out.c1
    have l2 := L4.out.c2
    have l3 := L4.out.c3
    have l4 := L4.out.c4
    have z5 := L4.out.frozen
    go_region
    all_goals
     go_wp2_with fail
     go_meet
     exact ⟨rfl, (((O4.out.far (p := ⟨q5, 1, none⟩) H15.out _).far (p := ⟨q5, 2, none⟩) H15.out _).far (p := ⟨q5, 3, none⟩) H15.out _).far (p := ⟨q5, 4, none⟩) H15.out _,
      (((F4.out.far (p := ⟨q5, 1, none⟩) H35.out _).far (p := ⟨q5, 2, none⟩) H35.out _).far (p := ⟨q5, 3, none⟩) H35.out _).far (p := ⟨q5, 4, none⟩) H35.out _,
      (((L4.out.set_ 1 (.int .i64 d)).set_ 2 (.int .i64 a)).set_ 3 (.int .i64 b)).set_ 4 (.int .i64 m),
      below_drewN ((((B4.out.setCell (p := ⟨q5, 1, none⟩) H5.out _).setCell (p := ⟨q5, 2, none⟩) H5.out _).setCell (p := ⟨q5, 3, none⟩) H5.out _).setCell (p := ⟨q5, 4, none⟩) H5.out _) 1⟩
   case rest =>
    obtain ⟨rfl, hra⟩ := hcut
    have RA := Lib.hid hra
    clear hra O4 F4 L4 B4
    have fc : wc.cell? ⟨q3, 1, none⟩ = some (.string fd) := RA.out.f.cell 1
    have hfs : fd.size ≤ 3 := HFS.out
    go_wp2_with fail
    go_loopw [4, 30] (fun s i wr => ∃ k : Nat, k ≤ fd.size ∧ i = .int .i64 k ∧ ∃ t : RSt, s = .bool t.ok ∧ rsk ⟨op, d, a, b, m⟩ fd k = t ∧ RAt w wr q1 q3 q5 ⟨op, d, a, b, m⟩ nm fd t) (fun _ i _ => fd.size - (intOf i).toNat)
    case atStart => exact ⟨0, Nat.zero_le _, rfl, rs0 ⟨op, d, a, b, m⟩, rfl, rfl, RA.out⟩
    case round =>
     obtain ⟨k, hk, rfl, t, rfl, hkt, hra⟩ := hrel
     have HKT := Lib.hid hkt
     have RB := Lib.hid hra
     clear hkt hra RA fc
     obtain ⟨ok, sd, sa, sb, sm⟩ := t
     have i0 : wr.cell? ⟨q1, 0, none⟩ = some (.int .i64 op) := RB.out.i.cell 0
     have i1 : wr.cell? ⟨q1, 1, none⟩ = some (.int .i64 d) := RB.out.i.cell 1
     have i2 : wr.cell? ⟨q1, 2, none⟩ = some (.int .i64 a) := RB.out.i.cell 2
     have i3 : wr.cell? ⟨q1, 3, none⟩ = some (.int .i64 b) := RB.out.i.cell 3
     have i4 : wr.cell? ⟨q1, 4, none⟩ = some (.int .i64 m) := RB.out.i.cell 4
     have fc : wr.cell? ⟨q3, 1, none⟩ = some (.string fd) := RB.out.f.cell 1
     have l0 : wr.cell? ⟨q5, 0, none⟩ = some (.int .i64 0) := RB.out.l.cell 0
     have l1 : wr.cell? ⟨q5, 1, none⟩ = some (.int .i64 sd) := RB.out.l.cell 1
     have l2 : wr.cell? ⟨q5, 2, none⟩ = some (.int .i64 sa) := RB.out.l.cell 2
     have l3 : wr.cell? ⟨q5, 3, none⟩ = some (.int .i64 sb) := RB.out.l.cell 3
     have l4 : wr.cell? ⟨q5, 4, none⟩ = some (.int .i64 sm) := RB.out.l.cell 4
     have z5 := RB.out.l.frozen
     by_cases hlt : k < fd.size
     · have g1 : (k : Int) < (fd.size : Int) := by omega
       have g0 : (0 : Int) ≤ (k : Int) := by omega
       have g4 : wrap64 ((k : Int) + 1) = (k : Int) + 1 := by unfold wrap64; omega
       obtain ⟨c, hc⟩ : ∃ c, fd[k].toNat = c := ⟨_, rfl⟩
       rcases (by omega : c = 100 ∨ c = 97 ∨ c = 115 ∨ c = 102 ∨ c = 109 ∨ c = 104 ∨ c = 110 ∨ c = 106 ∨ c = 98 ∨ (c ≠ 100 ∧ c ≠ 97 ∧ c ≠ 115 ∧ c ≠ 102 ∧ c ≠ 109 ∧ c ≠ 104 ∧ c ≠ 110 ∧ c ≠ 106 ∧ c ≠ 98)) with rfl | rfl | rfl | rfl | rfl | rfl | rfl | rfl | rfl | hn
       · have HC := Lib.hid hc
         cases ok
         · have HS := Lib.hid (show rst ⟨op, d, a, b, m⟩ ⟨false, sd, sa, sb, sm⟩ 100 = ⟨false, 0, sa, sb, sm⟩ by rfl)
           go_wp2_with fail
           exact ⟨⟨k + 1, by omega, by go_num, ⟨false, 0, sa, sb, sm⟩, rfl, by rw [rsk_succ hlt, HKT.out, HC.out]; exact HS.out, (RB.out.i.far (p := ⟨q5, 1, none⟩) H15.out _), (RB.out.f.far (p := ⟨q5, 1, none⟩) H35.out _), (RB.out.l.set_ 1 (.int .i64 0)), (RB.out.bel.setCell (p := ⟨q5, 1, none⟩) H5.out _)⟩, by simp [intOf]; omega⟩
         have HN := Lib.hid (fun w => register_any w d)
         have HS0 := (show rst ⟨op, d, a, b, m⟩ ⟨true, sd, sa, sb, sm⟩ 100 = ⟨regB d, 0, sa, sb, sm⟩ by rfl)
         generalize regB d = r at HN HS0
         have HS := Lib.hid HS0
         clear HS0
         go_wp2_with fail
         refine (HN.out _).mono ?_
         rintro e wx ⟨rfl, rfl⟩
         go_wp2_with fail
         exact ⟨⟨k + 1, by omega, by go_num, ⟨r, 0, sa, sb, sm⟩, rfl, by rw [rsk_succ hlt, HKT.out, HC.out]; exact HS.out, (RB.out.i.far (p := ⟨q5, 1, none⟩) H15.out _), (RB.out.f.far (p := ⟨q5, 1, none⟩) H35.out _), (RB.out.l.set_ 1 (.int .i64 0)), (RB.out.bel.setCell (p := ⟨q5, 1, none⟩) H5.out _)⟩, by simp [intOf]; omega⟩
       · have HC := Lib.hid hc
         cases ok
         · have HS := Lib.hid (show rst ⟨op, d, a, b, m⟩ ⟨false, sd, sa, sb, sm⟩ 97 = ⟨false, sd, 0, sb, sm⟩ by rfl)
           go_wp2_with fail
           exact ⟨⟨k + 1, by omega, by go_num, ⟨false, sd, 0, sb, sm⟩, rfl, by rw [rsk_succ hlt, HKT.out, HC.out]; exact HS.out, (RB.out.i.far (p := ⟨q5, 2, none⟩) H15.out _), (RB.out.f.far (p := ⟨q5, 2, none⟩) H35.out _), (RB.out.l.set_ 2 (.int .i64 0)), (RB.out.bel.setCell (p := ⟨q5, 2, none⟩) H5.out _)⟩, by simp [intOf]; omega⟩
         have HN := Lib.hid (fun w => register_any w a)
         have HS0 := (show rst ⟨op, d, a, b, m⟩ ⟨true, sd, sa, sb, sm⟩ 97 = ⟨regB a, sd, 0, sb, sm⟩ by rfl)
         generalize regB a = r at HN HS0
         have HS := Lib.hid HS0
         clear HS0
         go_wp2_with fail
         refine (HN.out _).mono ?_
         rintro e wx ⟨rfl, rfl⟩
         go_wp2_with fail
         exact ⟨⟨k + 1, by omega, by go_num, ⟨r, sd, 0, sb, sm⟩, rfl, by rw [rsk_succ hlt, HKT.out, HC.out]; exact HS.out, (RB.out.i.far (p := ⟨q5, 2, none⟩) H15.out _), (RB.out.f.far (p := ⟨q5, 2, none⟩) H35.out _), (RB.out.l.set_ 2 (.int .i64 0)), (RB.out.bel.setCell (p := ⟨q5, 2, none⟩) H5.out _)⟩, by simp [intOf]; omega⟩
       · have HC := Lib.hid hc
         have i3' : (wr.setCell ⟨q5, 3, none⟩ (.int .i64 0)).cell? ⟨q1, 3, none⟩ = some (.int .i64 b) := (RB.out.i.far (p := ⟨q5, 3, none⟩) H15.out _).cell 3
         by_cases hb : b = 8
         · have HS := Lib.hid (show rst ⟨op, d, a, b, m⟩ ⟨ok, sd, sa, sb, sm⟩ 115 = ⟨ok, sd, sa, 0, 0⟩ from if_pos hb)
           have gb : (b == 8) = true := by rw [hb]; rfl
           clear hb
           go_wp2_with fail
           exact ⟨⟨k + 1, by omega, by go_num, ⟨ok, sd, sa, 0, 0⟩, rfl, by rw [rsk_succ hlt, HKT.out, HC.out]; exact HS.out, ((RB.out.i.far (p := ⟨q5, 3, none⟩) H15.out _).far (p := ⟨q5, 4, none⟩) H15.out _), ((RB.out.f.far (p := ⟨q5, 3, none⟩) H35.out _).far (p := ⟨q5, 4, none⟩) H35.out _), ((RB.out.l.set_ 3 (.int .i64 0)).set_ 4 (.int .i64 0)), ((RB.out.bel.setCell (p := ⟨q5, 3, none⟩) H5.out _).setCell (p := ⟨q5, 4, none⟩) H5.out _)⟩, by simp [intOf]; omega⟩
         have gb : (b == 8) = false := by rw [beq_eq_false_iff_ne]; exact hb
         have HBN := Lib.hid hb
         clear hb
         cases ok
         · have HS := Lib.hid (show rst ⟨op, d, a, b, m⟩ ⟨false, sd, sa, sb, sm⟩ 115 = ⟨false, sd, sa, 0, sm⟩ by exact if_neg HBN.out)
           go_wp2_with fail
           exact ⟨⟨k + 1, by omega, by go_num, ⟨false, sd, sa, 0, sm⟩, rfl, by rw [rsk_succ hlt, HKT.out, HC.out]; exact HS.out, (RB.out.i.far (p := ⟨q5, 3, none⟩) H15.out _), (RB.out.f.far (p := ⟨q5, 3, none⟩) H35.out _), (RB.out.l.set_ 3 (.int .i64 0)), (RB.out.bel.setCell (p := ⟨q5, 3, none⟩) H5.out _)⟩, by simp [intOf]; omega⟩
         have HN := Lib.hid (fun w => register_any w b)
         have HS0 := (show rst ⟨op, d, a, b, m⟩ ⟨true, sd, sa, sb, sm⟩ 115 = ⟨regB b, sd, sa, 0, sm⟩ by exact if_neg HBN.out)
         generalize regB b = r at HN HS0
         have HS := Lib.hid HS0
         clear HS0
         go_wp2_with fail
         refine (HN.out _).mono ?_
         rintro e wx ⟨rfl, rfl⟩
         go_wp2_with fail
         exact ⟨⟨k + 1, by omega, by go_num, ⟨r, sd, sa, 0, sm⟩, rfl, by rw [rsk_succ hlt, HKT.out, HC.out]; exact HS.out, (RB.out.i.far (p := ⟨q5, 3, none⟩) H15.out _), (RB.out.f.far (p := ⟨q5, 3, none⟩) H35.out _), (RB.out.l.set_ 3 (.int .i64 0)), (RB.out.bel.setCell (p := ⟨q5, 3, none⟩) H5.out _)⟩, by simp [intOf]; omega⟩
       · have HC := Lib.hid hc
         cases ok
         · have HS := Lib.hid (show rst ⟨op, d, a, b, m⟩ ⟨false, sd, sa, sb, sm⟩ 102 = ⟨false, sd, sa, sb, 0⟩ by rfl)
           go_wp2_with fail
           exact ⟨⟨k + 1, by omega, by go_num, ⟨false, sd, sa, sb, 0⟩, rfl, by rw [rsk_succ hlt, HKT.out, HC.out]; exact HS.out, (RB.out.i.far (p := ⟨q5, 4, none⟩) H15.out _), (RB.out.f.far (p := ⟨q5, 4, none⟩) H35.out _), (RB.out.l.set_ 4 (.int .i64 0)), (RB.out.bel.setCell (p := ⟨q5, 4, none⟩) H5.out _)⟩, by simp [intOf]; omega⟩
         have HN := Lib.hid (fun w => within_any w m 0 1)
         have HS0 := (show rst ⟨op, d, a, b, m⟩ ⟨true, sd, sa, sb, sm⟩ 102 = ⟨wiB m 0 1, sd, sa, sb, 0⟩ by rfl)
         generalize wiB m 0 1 = r at HN HS0
         have HS := Lib.hid HS0
         clear HS0
         go_wp2_with fail
         refine (HN.out _).mono ?_
         rintro e wx ⟨rfl, rfl⟩
         go_wp2_with fail
         exact ⟨⟨k + 1, by omega, by go_num, ⟨r, sd, sa, sb, 0⟩, rfl, by rw [rsk_succ hlt, HKT.out, HC.out]; exact HS.out, (RB.out.i.far (p := ⟨q5, 4, none⟩) H15.out _), (RB.out.f.far (p := ⟨q5, 4, none⟩) H35.out _), (RB.out.l.set_ 4 (.int .i64 0)), (RB.out.bel.setCell (p := ⟨q5, 4, none⟩) H5.out _)⟩, by simp [intOf]; omega⟩
       · have HC := Lib.hid hc
         cases ok
         · have HS := Lib.hid (show rst ⟨op, d, a, b, m⟩ ⟨false, sd, sa, sb, sm⟩ 109 = ⟨false, sd, sa, sb, 0⟩ by rfl)
           go_wp2_with fail
           exact ⟨⟨k + 1, by omega, by go_num, ⟨false, sd, sa, sb, 0⟩, rfl, by rw [rsk_succ hlt, HKT.out, HC.out]; exact HS.out, (RB.out.i.far (p := ⟨q5, 4, none⟩) H15.out _), (RB.out.f.far (p := ⟨q5, 4, none⟩) H35.out _), (RB.out.l.set_ 4 (.int .i64 0)), (RB.out.bel.setCell (p := ⟨q5, 4, none⟩) H5.out _)⟩, by simp [intOf]; omega⟩
         have HN := Lib.hid (fun w => within_any w m 0 3)
         have HS0 := (show rst ⟨op, d, a, b, m⟩ ⟨true, sd, sa, sb, sm⟩ 109 = ⟨wiB m 0 3, sd, sa, sb, 0⟩ by rfl)
         generalize wiB m 0 3 = r at HN HS0
         have HS := Lib.hid HS0
         clear HS0
         go_wp2_with fail
         refine (HN.out _).mono ?_
         rintro e wx ⟨rfl, rfl⟩
         go_wp2_with fail
         exact ⟨⟨k + 1, by omega, by go_num, ⟨r, sd, sa, sb, 0⟩, rfl, by rw [rsk_succ hlt, HKT.out, HC.out]; exact HS.out, (RB.out.i.far (p := ⟨q5, 4, none⟩) H15.out _), (RB.out.f.far (p := ⟨q5, 4, none⟩) H35.out _), (RB.out.l.set_ 4 (.int .i64 0)), (RB.out.bel.setCell (p := ⟨q5, 4, none⟩) H5.out _)⟩, by simp [intOf]; omega⟩
       · have HC := Lib.hid hc
         cases ok
         · have HS := Lib.hid (show rst ⟨op, d, a, b, m⟩ ⟨false, sd, sa, sb, sm⟩ 104 = ⟨false, sd, sa, sb, 0⟩ by rfl)
           go_wp2_with fail
           exact ⟨⟨k + 1, by omega, by go_num, ⟨false, sd, sa, sb, 0⟩, rfl, by rw [rsk_succ hlt, HKT.out, HC.out]; exact HS.out, (RB.out.i.far (p := ⟨q5, 4, none⟩) H15.out _), (RB.out.f.far (p := ⟨q5, 4, none⟩) H35.out _), (RB.out.l.set_ 4 (.int .i64 0)), (RB.out.bel.setCell (p := ⟨q5, 4, none⟩) H5.out _)⟩, by simp [intOf]; omega⟩
         have HN := Lib.hid (fun w => within_any w m 0 6)
         have HS0 := (show rst ⟨op, d, a, b, m⟩ ⟨true, sd, sa, sb, sm⟩ 104 = ⟨wiB m 0 6, sd, sa, sb, 0⟩ by rfl)
         generalize wiB m 0 6 = r at HN HS0
         have HS := Lib.hid HS0
         clear HS0
         go_wp2_with fail
         refine (HN.out _).mono ?_
         rintro e wx ⟨rfl, rfl⟩
         go_wp2_with fail
         exact ⟨⟨k + 1, by omega, by go_num, ⟨r, sd, sa, sb, 0⟩, rfl, by rw [rsk_succ hlt, HKT.out, HC.out]; exact HS.out, (RB.out.i.far (p := ⟨q5, 4, none⟩) H15.out _), (RB.out.f.far (p := ⟨q5, 4, none⟩) H35.out _), (RB.out.l.set_ 4 (.int .i64 0)), (RB.out.bel.setCell (p := ⟨q5, 4, none⟩) H5.out _)⟩, by simp [intOf]; omega⟩
       · have HC := Lib.hid hc
         cases ok
         · have HS := Lib.hid (show rst ⟨op, d, a, b, m⟩ ⟨false, sd, sa, sb, sm⟩ 110 = ⟨false, sd, sa, sb, 0⟩ by rfl)
           go_wp2_with fail
           exact ⟨⟨k + 1, by omega, by go_num, ⟨false, sd, sa, sb, 0⟩, rfl, by rw [rsk_succ hlt, HKT.out, HC.out]; exact HS.out, (RB.out.i.far (p := ⟨q5, 4, none⟩) H15.out _), (RB.out.f.far (p := ⟨q5, 4, none⟩) H35.out _), (RB.out.l.set_ 4 (.int .i64 0)), (RB.out.bel.setCell (p := ⟨q5, 4, none⟩) H5.out _)⟩, by simp [intOf]; omega⟩
         have HN := Lib.hid (fun w => within_any w m 1 255)
         have HS0 := (show rst ⟨op, d, a, b, m⟩ ⟨true, sd, sa, sb, sm⟩ 110 = ⟨wiB m 1 255, sd, sa, sb, 0⟩ by rfl)
         generalize wiB m 1 255 = r at HN HS0
         have HS := Lib.hid HS0
         clear HS0
         go_wp2_with fail
         refine (HN.out _).mono ?_
         rintro e wx ⟨rfl, rfl⟩
         go_wp2_with fail
         exact ⟨⟨k + 1, by omega, by go_num, ⟨r, sd, sa, sb, 0⟩, rfl, by rw [rsk_succ hlt, HKT.out, HC.out]; exact HS.out, (RB.out.i.far (p := ⟨q5, 4, none⟩) H15.out _), (RB.out.f.far (p := ⟨q5, 4, none⟩) H35.out _), (RB.out.l.set_ 4 (.int .i64 0)), (RB.out.bel.setCell (p := ⟨q5, 4, none⟩) H5.out _)⟩, by simp [intOf]; omega⟩
       · have HC := Lib.hid hc
         cases ok
         · have HS := Lib.hid (show rst ⟨op, d, a, b, m⟩ ⟨false, sd, sa, sb, sm⟩ 106 = ⟨false, 0, sa, sb, sm⟩ by rfl)
           go_wp2_with fail
           exact ⟨⟨k + 1, by omega, by go_num, ⟨false, 0, sa, sb, sm⟩, rfl, by rw [rsk_succ hlt, HKT.out, HC.out]; exact HS.out, (RB.out.i.far (p := ⟨q5, 1, none⟩) H15.out _), (RB.out.f.far (p := ⟨q5, 1, none⟩) H35.out _), (RB.out.l.set_ 1 (.int .i64 0)), (RB.out.bel.setCell (p := ⟨q5, 1, none⟩) H5.out _)⟩, by simp [intOf]; omega⟩
         have HN := Lib.hid (fun w => within_any w d 0 63)
         have HS0 := (show rst ⟨op, d, a, b, m⟩ ⟨true, sd, sa, sb, sm⟩ 106 = ⟨wiB d 0 63, 0, sa, sb, sm⟩ by rfl)
         generalize wiB d 0 63 = r at HN HS0
         have HS := Lib.hid HS0
         clear HS0
         go_wp2_with fail
         refine (HN.out _).mono ?_
         rintro e wx ⟨rfl, rfl⟩
         go_wp2_with fail
         exact ⟨⟨k + 1, by omega, by go_num, ⟨r, 0, sa, sb, sm⟩, rfl, by rw [rsk_succ hlt, HKT.out, HC.out]; exact HS.out, (RB.out.i.far (p := ⟨q5, 1, none⟩) H15.out _), (RB.out.f.far (p := ⟨q5, 1, none⟩) H35.out _), (RB.out.l.set_ 1 (.int .i64 0)), (RB.out.bel.setCell (p := ⟨q5, 1, none⟩) H5.out _)⟩, by simp [intOf]; omega⟩
       · have HC := Lib.hid hc
         cases ok
         · have HS := Lib.hid (show rst ⟨op, d, a, b, m⟩ ⟨false, sd, sa, sb, sm⟩ 98 = ⟨false, 0, sa, sb, sm⟩ by rfl)
           go_wp2_with fail
           exact ⟨⟨k + 1, by omega, by go_num, ⟨false, 0, sa, sb, sm⟩, rfl, by rw [rsk_succ hlt, HKT.out, HC.out]; exact HS.out, (RB.out.i.far (p := ⟨q5, 1, none⟩) H15.out _), (RB.out.f.far (p := ⟨q5, 1, none⟩) H35.out _), (RB.out.l.set_ 1 (.int .i64 0)), (RB.out.bel.setCell (p := ⟨q5, 1, none⟩) H5.out _)⟩, by simp [intOf]; omega⟩
         have HN := Lib.hid (fun w => within_any w d 1 63)
         have HS0 := (show rst ⟨op, d, a, b, m⟩ ⟨true, sd, sa, sb, sm⟩ 98 = ⟨wiB d 1 63, 0, sa, sb, sm⟩ by rfl)
         generalize wiB d 1 63 = r at HN HS0
         have HS := Lib.hid HS0
         clear HS0
         go_wp2_with fail
         refine (HN.out _).mono ?_
         rintro e wx ⟨rfl, rfl⟩
         go_wp2_with fail
         exact ⟨⟨k + 1, by omega, by go_num, ⟨r, 0, sa, sb, sm⟩, rfl, by rw [rsk_succ hlt, HKT.out, HC.out]; exact HS.out, (RB.out.i.far (p := ⟨q5, 1, none⟩) H15.out _), (RB.out.f.far (p := ⟨q5, 1, none⟩) H35.out _), (RB.out.l.set_ 1 (.int .i64 0)), (RB.out.bel.setCell (p := ⟨q5, 1, none⟩) H5.out _)⟩, by simp [intOf]; omega⟩
       have HC := Lib.hid hc
       have HS := Lib.hid (show rst ⟨op, d, a, b, m⟩ ⟨ok, sd, sa, sb, sm⟩ c = ⟨ok, sd, sa, sb, sm⟩ by unfold rst; simp only [hn, if_false])
       have n100 : ((fd[k].toNat : Int) == 100) = false := by rw [beq_eq_false_iff_ne]; omega
       have n97 : ((fd[k].toNat : Int) == 97) = false := by rw [beq_eq_false_iff_ne]; omega
       have n115 : ((fd[k].toNat : Int) == 115) = false := by rw [beq_eq_false_iff_ne]; omega
       have n102 : ((fd[k].toNat : Int) == 102) = false := by rw [beq_eq_false_iff_ne]; omega
       have n109 : ((fd[k].toNat : Int) == 109) = false := by rw [beq_eq_false_iff_ne]; omega
       have n104 : ((fd[k].toNat : Int) == 104) = false := by rw [beq_eq_false_iff_ne]; omega
       have n110 : ((fd[k].toNat : Int) == 110) = false := by rw [beq_eq_false_iff_ne]; omega
       have n106 : ((fd[k].toNat : Int) == 106) = false := by rw [beq_eq_false_iff_ne]; omega
       have n98 : ((fd[k].toNat : Int) == 98) = false := by rw [beq_eq_false_iff_ne]; omega
       clear hn hc
       go_wp2_with fail
       exact ⟨⟨k + 1, by omega, by go_num, ⟨ok, sd, sa, sb, sm⟩, rfl, by rw [rsk_succ hlt, HKT.out, HC.out]; exact HS.out, RB.out.i, RB.out.f, RB.out.l, RB.out.bel⟩, by simp [intOf]; omega⟩
     have g1 : ¬ (k : Int) < (fd.size : Int) := by omega
     have hke : k = fd.size := by omega
     have HV := Lib.hid (show RSt.good ⟨ok, sd, sa, sb, sm⟩ = V by rw [← HV.out, ← hke, HKT.out])
     clear hke
     cases ok
     · go_wp2_with fail
       go_ret
       exact ⟨by rw [← HV.out] <;> first | done | rfl, RB.out.bel⟩
     go_wp2_with fail
     all_goals
      go_ret
      exact ⟨by first
       | (have e : V = true := by rw [← HV.out]; simp [RSt.good, *]
          subst e; rfl)
       | (have e : V = false := by rw [← HV.out]; simp [RSt.good, *]
          subst e; rfl), RB.out.bel⟩
 have HV := Lib.hid (show V = false by rw [← HV.out]; unfold rightV; dsimp only; rw [decide_eq_false hop, Bool.false_and])
 rw [decide_eq_false hop]
 clear hop
 go_wp2_with fail
 go_ret
 exact ⟨by rw [HV.out] <;> first | done | rfl, B3.out⟩

end Go.Proofs.YtikkmkomlajnfaaGreatDoor.Op
end
