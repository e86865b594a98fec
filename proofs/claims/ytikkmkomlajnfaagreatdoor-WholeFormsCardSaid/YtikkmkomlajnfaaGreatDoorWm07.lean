/-
  Layer 11: a machine's object, and what a step makes of it. Conditions: those of each theorem.
  A result that lies in a cell: what a call hands back, its load being known. Conditions: those of each theorem.
-/
import Derived.Test.YtikkmkomlajnfaaGreatDoorWm03
import Derived.Test.YtikkmkomlajnfaaGreatDoorWm06
import Derived.Test.YtikkmkomlajnfaaGreatDoorWm05
import Derived.Test.YtikkmkomlajnfaaGreatDoorWm02
import Derived.Deep.MidRow
import Derived.Deep.RegionHeld3
import Derived.WalkKit
import Derived.WalkLawsBesides
import Derived.Lib.Hide
set_option linter.unusedVariables false
set_option linter.unusedSimpArgs false
section
namespace Go.Proofs.YtikkmkomlajnfaaGreatDoor.En
open Go.RowKit
open Go.Proofs.YtikkmkomlajnfaaGreatDoor.Op (InstV insc insVal inss ins0 ins_at rightV right_is RightI Frm goesV writesV sourceV)

/-- a list as a map over its places -/
def rg (m : Nat) (f : Nat → Value) : List Value := (List.range m).map f
theorem rg_length (m : Nat) (f : Nat → Value) : (rg m f).length = m := by simp [rg]
theorem rg_get (m : Nat) (f : Nat → Value) {i : Nat} (h : i < m) : (rg m f)[i]? = some (f i) := by simp [rg, h]
theorem rg_set (m : Nat) (f : Nat → Value) (i : Nat) (v : Value) : (rg m f).set i v = rg m (fun x => if x = i then v else f x) := by
 apply List.ext_getElem?
 intro x
 rw [List.getElem?_set]
 by_cases hx : x < m
 · by_cases e : i = x
   · subst e
     rw [if_pos rfl, rg_length, if_pos hx, rg_get m _ hx, if_pos rfl]
   rw [if_neg e, rg_get m _ hx, rg_get m _ hx, if_neg (fun h => e h.symm)]
 have h1 : (rg m f)[x]? = none := List.getElem?_eq_none (by rw [rg_length]; omega)
 have h2 : (rg m (fun y => if y = i then v else f y))[x]? = none := List.getElem?_eq_none (by rw [rg_length]; omega)
 rw [h1, h2, rg_length]
 split
 · split
   · omega
   rfl
 rfl
theorem rg_ext {m : Nat} {f f' : Nat → Value} (h : ∀ x, x < m → f x = f' x) : rg m f = rg m f' := by
 unfold rg
 exact List.map_congr_left fun x hx => h x (List.mem_range.1 hx)

/-- uint64 of an int64 -/
def ofI (m : Int) : BitVec 64 := BitVec.ofInt 64 m
theorem uv_ofI (m : Int) : uv (ofI m) = m % 18446744073709551616 := by
 unfold uv ofI
 rw [BitVec.toNat_ofInt]
 omega
theorem wrapu (m : Int) : IntKind.u64.wrap m = uv (ofI m) := by rw [uv_ofI]; rfl

/-- what a machine is doing -/
structure StV where
 regs : Nat → BitVec 64
 words : Nat → BitVec 64
 counts : Nat → BitVec 64
 turns : Nat → Int
 pc : Nat
 steps : Int
 st : Int
/-- a number of a list, turned -/
def updI (ts : Nat → Int) (j : Nat) (x : Int) : Nat → Int := fun i => if i = j then x else ts i
def mcell (ea eb : BitVec 64) (mV cV sV : Value) (S : StV) (x : Nat) : Value :=
 if x = 0 then .int .u64 (uv ea) else if x = 1 then .int .u64 (uv eb) else if x = 2 then mV else if x = 3 then cV else if x = 4 then sV
 else if x < 13 then .int .u64 (uv (S.regs (x - 5))) else if x < 77 then .int .i64 (S.turns (x - 13)) else if x = 77 then .int .i64 S.pc else if x = 78 then .int .i64 S.steps else .int .i64 S.st
/-- the machine's object, and its scratch -/
structure MAt (w : World) (g gs : Nat) (ea eb : BitVec 64) (mV cV : Value) (S : StV) : Prop where
 o : Ob w g 153 (rg 80 (mcell ea eb mV cV (.pointer (some ⟨gs, 0, none⟩)) S))
 s : Ob w gs 146 (arr 16 S.words ++ (arr 16 S.counts ++ []))
def Tg (g gs : Nat) : Nat → Prop := fun i => i = g ∨ i = gs
section
variable {w w' : World} {g gs : Nat} {ea eb : BitVec 64} {mV cV : Value} {S : StV}
theorem MAt.ne_ (h : MAt w g gs ea eb mV cV S) : g ≠ gs := h.o.ne_ h.s (by decide)
theorem MAt.below (h : MAt w g gs ea eb mV cV S) (hb : Below w.heap.size w w') : MAt w' g gs ea eb mV cV S := ⟨h.o.below hb h.o.lt, h.s.below hb h.s.lt⟩
theorem MAt.alloc (h : MAt w g gs ea eb mV cV S) (ob : Obj) : MAt (w.alloc ob) g gs ea eb mV cV S := ⟨h.o.alloc ob, h.s.alloc ob⟩
theorem MAt.drewN (h : MAt w g gs ea eb mV cV S) (n : Nat) : MAt (w.drewN n) g gs ea eb mV cV S := ⟨h.o.drewN n, h.s.drewN n⟩
theorem MAt.drew (h : MAt w g gs ea eb mV cV S) : MAt w.drew g gs ea eb mV cV S := ⟨h.o.drew, h.s.drew⟩
theorem MAt.tch {B : Nat → Prop} (h : MAt w g gs ea eb mV cV S) (k : Tch B w w') (h1 : ¬ B g) (h2 : ¬ B gs) : MAt w' g gs ea eb mV cV S := ⟨h.o.tch k h1, h.s.tch k h2⟩
theorem MAt.cell (h : MAt w g gs ea eb mV cV S) (x : Nat) (hx : x < 80) : w.cell? ⟨g, x, none⟩ = some (mcell ea eb mV cV (.pointer (some ⟨gs, 0, none⟩)) S x) := by rw [h.o.cell, rg_get _ _ hx]
theorem MAt.ea_ (h : MAt w g gs ea eb mV cV S) : w.cell? ⟨g, 0, none⟩ = some (.int .u64 (uv ea)) := h.cell 0 (by omega)
theorem MAt.eb_ (h : MAt w g gs ea eb mV cV S) : w.cell? ⟨g, 1, none⟩ = some (.int .u64 (uv eb)) := h.cell 1 (by omega)
theorem MAt.ms (h : MAt w g gs ea eb mV cV S) : w.cell? ⟨g, 2, none⟩ = some mV := h.cell 2 (by omega)
theorem MAt.cs (h : MAt w g gs ea eb mV cV S) : w.cell? ⟨g, 3, none⟩ = some cV := h.cell 3 (by omega)
theorem MAt.sp (h : MAt w g gs ea eb mV cV S) : w.cell? ⟨g, 4, none⟩ = some (.pointer (some ⟨gs, 0, none⟩)) := h.cell 4 (by omega)
theorem MAt.reg (h : MAt w g gs ea eb mV cV S) {r : Nat} (hr : r < 8) : w.cell? ⟨g, 5 + r, none⟩ = some (.int .u64 (uv (S.regs r))) := by
 rw [h.cell _ (by omega)]
 unfold mcell
 rw [if_neg (by omega), if_neg (by omega), if_neg (by omega), if_neg (by omega), if_neg (by omega), if_pos (by omega), Nat.add_sub_cancel_left]
theorem MAt.turn (h : MAt w g gs ea eb mV cV S) {p : Nat} (hp : p < 64) : w.cell? ⟨g, 13 + p, none⟩ = some (.int .i64 (S.turns p)) := by
 rw [h.cell _ (by omega)]
 unfold mcell
 rw [if_neg (by omega), if_neg (by omega), if_neg (by omega), if_neg (by omega), if_neg (by omega), if_neg (by omega), if_pos (by omega), Nat.add_sub_cancel_left]
theorem MAt.pc_ (h : MAt w g gs ea eb mV cV S) : w.cell? ⟨g, 77, none⟩ = some (.int .i64 S.pc) := h.cell 77 (by omega)
theorem MAt.steps_ (h : MAt w g gs ea eb mV cV S) : w.cell? ⟨g, 78, none⟩ = some (.int .i64 S.steps) := h.cell 78 (by omega)
theorem MAt.st_ (h : MAt w g gs ea eb mV cV S) : w.cell? ⟨g, 79, none⟩ = some (.int .i64 S.st) := h.cell 79 (by omega)
theorem MAt.setReg (h : MAt w g gs ea eb mV cV S) {r : Nat} (hr : r < 8) (v : BitVec 64) : MAt (w.setCell ⟨g, 5 + r, none⟩ (.int .u64 (uv v))) g gs ea eb mV cV { S with regs := upd S.regs r v } := by
 refine ⟨?_, h.s.far (p := ⟨g, 5 + r, none⟩) h.ne_.symm _⟩
 have := h.o.set_ (5 + r) (.int .u64 (uv v))
 rw [rg_set] at this
 rw [show rg 80 (mcell ea eb mV cV (.pointer (some ⟨gs, 0, none⟩)) { S with regs := upd S.regs r v }) = rg 80 (fun x => if x = 5 + r then .int .u64 (uv v) else mcell ea eb mV cV (.pointer (some ⟨gs, 0, none⟩)) S x) from rg_ext fun x hx => ?_]
 · exact this
 by_cases e : x = 5 + r
 · subst e
   unfold mcell upd
   rw [if_pos rfl, if_neg (by omega), if_neg (by omega), if_neg (by omega), if_neg (by omega), if_neg (by omega), if_pos (by omega), Nat.add_sub_cancel_left]
   exact congrArg (fun z => Value.int .u64 (uv z)) (if_pos rfl)
 rw [if_neg e]
 unfold mcell upd
 by_cases h1 : x < 5
 · have : x = 0 ∨ x = 1 ∨ x = 2 ∨ x = 3 ∨ x = 4 := by omega
   rcases this with rfl | rfl | rfl | rfl | rfl <;> rfl
 by_cases h2 : x < 13
 · rw [if_neg (by omega), if_neg (by omega), if_neg (by omega), if_neg (by omega), if_neg (by omega), if_pos h2]
   dsimp only
   rw [if_neg (show ¬ x - 5 = r by omega)]
   rw [if_neg (by omega), if_neg (by omega), if_neg (by omega), if_neg (by omega), if_neg (by omega), if_pos h2]
 simp only [if_neg h2]
theorem MAt.setTurn (h : MAt w g gs ea eb mV cV S) {p : Nat} (hp : p < 64) (v : Int) : MAt (w.setCell ⟨g, 13 + p, none⟩ (.int .i64 v)) g gs ea eb mV cV { S with turns := updI S.turns p v } := by
 refine ⟨?_, h.s.far (p := ⟨g, 13 + p, none⟩) h.ne_.symm _⟩
 have := h.o.set_ (13 + p) (.int .i64 v)
 rw [rg_set] at this
 rw [show rg 80 (mcell ea eb mV cV (.pointer (some ⟨gs, 0, none⟩)) { S with turns := updI S.turns p v }) = rg 80 (fun x => if x = 13 + p then .int .i64 v else mcell ea eb mV cV (.pointer (some ⟨gs, 0, none⟩)) S x) from rg_ext fun x hx => ?_]
 · exact this
 by_cases e : x = 13 + p
 · subst e
   unfold mcell updI
   rw [if_pos rfl, if_neg (by omega), if_neg (by omega), if_neg (by omega), if_neg (by omega), if_neg (by omega), if_neg (by omega), if_pos (by omega), Nat.add_sub_cancel_left]
   exact congrArg (fun z => Value.int .i64 z) (if_pos rfl)
 rw [if_neg e]
 unfold mcell updI
 by_cases h1 : x < 13
 · simp only [if_pos h1]
 by_cases h2 : x < 77
 · rw [if_neg (by omega), if_neg (by omega), if_neg (by omega), if_neg (by omega), if_neg (by omega), if_neg h1, if_pos h2]
   dsimp only
   rw [if_neg (show ¬ x - 13 = p by omega)]
   rw [if_neg (by omega), if_neg (by omega), if_neg (by omega), if_neg (by omega), if_neg (by omega), if_neg h1, if_pos h2]
 simp only [if_neg h2]
theorem mc_last {x : Nat} (hx : x < 80) : x < 77 ∨ x = 77 ∨ x = 78 ∨ x = 79 := by omega
theorem MAt.setPc (h : MAt w g gs ea eb mV cV S) (v : Nat) : MAt (w.setCell ⟨g, 77, none⟩ (.int .i64 v)) g gs ea eb mV cV { S with pc := v } := by
 refine ⟨?_, h.s.far (p := ⟨g, 77, none⟩) h.ne_.symm _⟩
 have := h.o.set_ 77 (.int .i64 v)
 rw [rg_set] at this
 rw [show rg 80 (mcell ea eb mV cV (.pointer (some ⟨gs, 0, none⟩)) { S with pc := v }) = rg 80 (fun x => if x = 77 then .int .i64 v else mcell ea eb mV cV (.pointer (some ⟨gs, 0, none⟩)) S x) from rg_ext fun x hx => ?_]
 · exact this
 rcases mc_last hx with h1 | rfl | rfl | rfl
 · rw [if_neg (by omega)]
   unfold mcell
   simp only [if_pos h1]
 · rfl
 · rfl
 rfl
theorem MAt.setSteps (h : MAt w g gs ea eb mV cV S) (v : Int) : MAt (w.setCell ⟨g, 78, none⟩ (.int .i64 v)) g gs ea eb mV cV { S with steps := v } := by
 refine ⟨?_, h.s.far (p := ⟨g, 78, none⟩) h.ne_.symm _⟩
 have := h.o.set_ 78 (.int .i64 v)
 rw [rg_set] at this
 rw [show rg 80 (mcell ea eb mV cV (.pointer (some ⟨gs, 0, none⟩)) { S with steps := v }) = rg 80 (fun x => if x = 78 then .int .i64 v else mcell ea eb mV cV (.pointer (some ⟨gs, 0, none⟩)) S x) from rg_ext fun x hx => ?_]
 · exact this
 rcases mc_last hx with h1 | rfl | rfl | rfl
 · rw [if_neg (by omega)]
   unfold mcell
   simp only [if_pos h1]
 · rfl
 · rfl
 rfl
theorem MAt.setSt (h : MAt w g gs ea eb mV cV S) (v : Int) : MAt (w.setCell ⟨g, 79, none⟩ (.int .i64 v)) g gs ea eb mV cV { S with st := v } := by
 refine ⟨?_, h.s.far (p := ⟨g, 79, none⟩) h.ne_.symm _⟩
 have := h.o.set_ 79 (.int .i64 v)
 rw [rg_set] at this
 rw [show rg 80 (mcell ea eb mV cV (.pointer (some ⟨gs, 0, none⟩)) { S with st := v }) = rg 80 (fun x => if x = 79 then .int .i64 v else mcell ea eb mV cV (.pointer (some ⟨gs, 0, none⟩)) S x) from rg_ext fun x hx => ?_]
 · exact this
 rcases mc_last hx with h1 | rfl | rfl | rfl
 · rw [if_neg (by omega)]
   unfold mcell
   simp only [if_pos h1]
 · rfl
 · rfl
 rfl
theorem MAt.ext {S' : StV} (h : MAt w g gs ea eb mV cV S) (h1 : ∀ r, r < 8 → S.regs r = S'.regs r) (h2 : ∀ p, p < 64 → S.turns p = S'.turns p) (h3 : S.pc = S'.pc) (h4 : S.steps = S'.steps) (h5 : S.st = S'.st)
 (h6 : ∀ j, j < 16 → S.words j = S'.words j) (h7 : ∀ j, j < 16 → S.counts j = S'.counts j) : MAt w g gs ea eb mV cV S' := by
 refine ⟨?_, by rw [← arr_congr h6, ← arr_congr h7]; exact h.s⟩
 rw [show rg 80 (mcell ea eb mV cV (.pointer (some ⟨gs, 0, none⟩)) S') = rg 80 (mcell ea eb mV cV (.pointer (some ⟨gs, 0, none⟩)) S) from rg_ext fun x hx => ?_]
 · exact h.o
 unfold mcell
 by_cases a1 : x < 13
 · simp only [if_pos a1]
   by_cases a0 : x < 5
   · have : x = 0 ∨ x = 1 ∨ x = 2 ∨ x = 3 ∨ x = 4 := by omega
     rcases this with rfl | rfl | rfl | rfl | rfl <;> rfl
   rw [h1 (x - 5) (by omega)]
 by_cases a2 : x < 77
 · simp only [if_pos a2]
   rw [h2 (x - 13) (by omega)]
   simp only [if_neg a1]
 simp only [if_neg a1, if_neg a2]
 rw [h3, h4, h5]
end

/-- the source of an instruction, among the registers -/
def srcU (i : InstV) (rs : Nat → BitVec 64) : BitVec 64 := if i.b = 8 then ofI i.m else rs i.b.toNat
/-- may it be run? -/
def okI (i : InstV) (S : StV) : Prop := (i.op = 11 ∨ i.op = 12) → (srcU i S.regs).toNat < 16
/-- what an instruction that is neither a call nor an exit makes of the machine; how far it leads -/
def runS (ea eb : BitVec 64) (i : InstV) (S : StV) : StV :=
 if i.op = 0 then { S with regs := upd S.regs i.d.toNat (srcU i S.regs) }
 else if i.op = 11 then { S with regs := upd S.regs i.d.toNat (S.words (srcU i S.regs).toNat) }
 else if i.op = 12 then { S with words := upd S.words (srcU i S.regs).toNat (S.regs i.a.toNat) }
 else if i.op = 13 then { S with regs := upd S.regs i.d.toNat (if i.m = 1 then eb else ea) }
 else if i.op = 14 then { S with regs := upd S.regs i.d.toNat (ofI i.m) }
 else if i.op = 15 then S
 else if i.op = 20 then (if S.regs i.a.toNat ≠ 0#64 ∧ S.turns S.pc < i.m then { S with turns := updI S.turns S.pc (S.turns S.pc + 1) } else { S with turns := updI S.turns S.pc 0 })
 else if AM.doOk i.op = true then { S with regs := upd S.regs i.d.toNat (AM.doV i.op (S.regs i.a.toNat) (srcU i S.regs)) }
 else S
def runD (i : InstV) (S : StV) : Int :=
 if i.op = 15 then i.d + 1
 else if i.op = 20 then (if S.regs i.a.toNat ≠ 0#64 ∧ S.turns S.pc < i.m then -i.d else 1)
 else if AM.doOk i.op = true then 1
 else if AM.hdV i.op (S.regs i.a.toNat) (srcU i S.regs) = true then i.d + 1
 else 1
/-- what a step is told as -/
structure ActV where
 k : Int
 pc : Int
 mp : Int
 op : Int
 key : BitVec 64
 val : BitVec 64
 v : BitVec 64
deriving DecidableEq
def acc (a : ActV) : List Value := [.int .i64 a.k, .int .i64 a.pc, .int .i64 a.mp, .int .i64 a.op, .int .u64 (uv a.key), .int .u64 (uv a.val), .int .u64 (uv a.v)]
def acVal (a : ActV) : Value := .agg #[.int .i64 a.k, .int .i64 a.pc, .int .i64 a.mp, .int .i64 a.op, .int .u64 (uv a.key), .int .u64 (uv a.val), .int .u64 (uv a.v)]
def ac0 : ActV := ⟨0, 0, 0, 0, 0#64, 0#64, 0#64⟩
/-- a call of a helper -/
def callS (h : Int) (S : StV) : StV :=
 if h < 5 then { S with st := 1 }
 else if h = 5 then { S with counts := upd S.counts (S.regs 1).toNat (S.counts (S.regs 1).toNat + 1#64), regs := upd S.regs 0 (S.counts (S.regs 1).toNat + 1#64), pc := S.pc + 1 }
 else { S with regs := upd S.regs 0 0#64, pc := S.pc + 1 }
def callA (ms : List Int) (h : Int) (S : StV) : ActV :=
 if h < 5 then ⟨2, S.pc, ms.getD (S.regs 1).toNat 0, h, S.regs 2, if h = 2 ∨ h = 4 then S.regs 3 else 0#64, 0#64⟩
 else if h = 5 then ⟨1, S.pc, 0, 0, 0#64, 0#64, S.counts (S.regs 1).toNat + 1#64⟩
 else ⟨3, S.pc, 0, 0, 0#64, 0#64, S.regs 1⟩
def okC (ms : List Int) (h : Int) (S : StV) : Prop := (h < 5 → (S.regs 1).toNat < ms.length) ∧ (h = 5 → (S.regs 1).toNat < 16)
/-- a step -/
def stepS (ea eb : BitVec 64) (i : InstV) (S : StV) : StV :=
 if i.op = 21 then callS i.m { S with steps := S.steps + 1 }
 else if i.op = 22 then { S with steps := S.steps + 1, st := 2 }
 else { runS ea eb i { S with steps := S.steps + 1 } with pc := (S.pc + runD i S).toNat }
def stepA (ms : List Int) (i : InstV) (S : StV) : ActV :=
 if i.op = 21 then callA ms i.m S
 else if i.op = 22 then ⟨4, S.pc, 0, 0, 0#64, 0#64, S.regs i.a.toNat⟩
 else ⟨1, S.pc, 0, 0, 0#64, 0#64, 0#64⟩

end Go.Proofs.YtikkmkomlajnfaaGreatDoor.En
end

section
namespace Go.Proofs.YtikkmkomlajnfaaGreatDoor
open Go.RowKit

theorem results_cell_tmp {P : Program} {fn : Func} {tmps : Array Value} {a b : Nat} {t : TypeId} {p : Addr} {v : Value} {w : World} (h : fn.results = #[.cell a t, .tmp b]) (ha : tmps.getD a undef = .pointer (some p)) (hl : (loadVar t p).run P w = .ok v w) :
 (results fn tmps).run P w = .ok (.tuple #[v, tmps.getD b undef]) w := by
 unfold results
 rw [h]
 rw [Array.getD_eq_getD_getElem?] at ha ⊢
 simp [ha, hl, asAddr, Sem.run_bind]
theorem results_cell {P : Program} {fn : Func} {tmps : Array Value} {a : Nat} {t : TypeId} {p : Addr} {v : Value} {w : World} (h : fn.results = #[.cell a t]) (ha : tmps.getD a undef = .pointer (some p)) (hl : (loadVar t p).run P w = .ok v w) :
 (results fn tmps).run P w = .ok v w := by
 unfold results
 rw [h]
 rw [Array.getD_eq_getD_getElem?] at ha
 simp [ha, hl, asAddr, Sem.run_bind]

end Go.Proofs.YtikkmkomlajnfaaGreatDoor
end
