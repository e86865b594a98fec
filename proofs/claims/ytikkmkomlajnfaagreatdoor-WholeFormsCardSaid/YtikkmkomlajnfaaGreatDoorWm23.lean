/-
  Layer 9: what going over a module comes to. Conditions: those of each theorem.
  Layer 9: the walk of judged, and Judge. Conditions: those of each theorem.
-/
import Derived.Test.YtikkmkomlajnfaaGreatDoorWm20
import Derived.Test.YtikkmkomlajnfaaGreatDoorWm05
import Derived.Test.YtikkmkomlajnfaaGreatDoorWm04
import Derived.Laws.MakeOwn
import Derived.Test.YtikkmkomlajnfaaGreatDoorWm01
import Derived.Test.YtikkmkomlajnfaaGreatDoorWm21
import Derived.Test.YtikkmkomlajnfaaGreatDoorWm22
set_option linter.unusedVariables false
set_option linter.unusedSimpArgs false
section
namespace Go.Proofs.YtikkmkomlajnfaaGreatDoor.Jd
open Go.RowKit
open Go.Proofs.YtikkmkomlajnfaaGreatDoor.Op (InstV insc insVal inss ins0 ins_at rightV right_is Frm goesV writesV sourceV LoopV lpc lps lp0 lp_at loopsV checkV CheckI check_is placesV_ok plBad plV)

theorem updT_right {K : Nat → JT} {r0 : Nat} {t : JT} (hK : ∀ r, JR (K r)) (ht : JR t) : ∀ r, JR (updT K r0 t r) := by
 intro r
 unfold updT
 by_cases h : r = r0
 · rw [if_pos h]; exact ht
 rw [if_neg h]; exact hK r
theorem full_right : JR fullT := Nat.zero_le _
theorem j0_right : JR j0 := Nat.le_refl _
theorem srcV_right {i : InstV} {K : Nat → JT} (hK : ∀ r, JR (K r)) : JR (srcV i K) := by
 unfold srcV
 by_cases h : sourceV i = true
 · rw [if_pos h]; exact srcT_right hK
 rw [if_neg h]; exact j0_right
theorem res_right (y : Nat) : JR (resT y) := by
 unfold resT
 by_cases h : y < 7
 · rw [if_pos h]; exact Nat.zero_le _
 rw [if_neg h]; exact j0_right
theorem dos_right (op : Int) (al ah bl bh : BitVec 64) : JR (numT (Sp.dosR op al ah bl bh).1 (Sp.dosR op al ah bl bh).2) := by
 by_cases h : Sp.dosOk op al ah bl bh = true
 · have h' := h
   unfold Sp.dosOk at h'
   simp only [Bool.and_eq_true, decide_eq_true_eq] at h'
   obtain ⟨⟨ho, h1⟩, h2⟩ := h'
   have s := (Sp.dos_sound (al := al) (ah := ah) (bl' := bl) (bh := bh) (x := al) (y := bl) (Nat.le_refl _) h1 (Nat.le_refl _) h2 ho).2
   exact Nat.le_trans s.1 s.2
 unfold Sp.dosR
 rw [if_neg h]
 exact Nat.le_refl _
theorem one_right {i : InstV} {K H : Nat → JT} {nm : Nat} (hK : ∀ r, JR (K r)) : ∀ r, JR ((oneV i K H nm).1 r) := by
 have hs := srcV_right (i := i) hK
 unfold oneV
 by_cases c0 : i.op = 0
 · rw [if_pos c0]
   by_cases c : (srcV i K).k = 0
   · rw [if_pos c]; exact hK
   rw [if_neg c]; exact updT_right hK hs
 rw [if_neg c0]
 by_cases c1 : i.op = 11
 · rw [if_pos c1]
   exact updT_right hK full_right
 rw [if_neg c1]
 by_cases c2 : i.op = 12
 · rw [if_pos c2]
   exact hK
 rw [if_neg c2]
 by_cases c3 : i.op = 13
 · rw [if_pos c3]
   exact updT_right hK full_right
 rw [if_neg c3]
 by_cases c4 : i.op = 14
 · rw [if_pos c4]
   exact updT_right hK (show JR ⟨2, 0#64, 0#64, i.m⟩ from Nat.le_refl _)
 rw [if_neg c4]
 by_cases c5 : i.op = 15
 · rw [if_pos c5]
   exact hK
 rw [if_neg c5]
 by_cases c6 : i.op = 16
 · rw [if_pos c6]
   exact hK
 rw [if_neg c6]
 by_cases c7 : i.op = 17
 · rw [if_pos c7]
   exact hK
 rw [if_neg c7]
 by_cases c8 : i.op = 18
 · rw [if_pos c8]
   exact hK
 rw [if_neg c8]
 by_cases c9 : i.op = 19
 · rw [if_pos c9]
   exact hK
 rw [if_neg c9]
 by_cases c10 : i.op = 20
 · rw [if_pos c10]
   exact hK
 rw [if_neg c10]
 by_cases c11 : i.op = 21
 · rw [if_pos c11]
   exact updT_right hK (res_right _)
 rw [if_neg c11]
 by_cases c12 : i.op = 22
 · rw [if_pos c12]
   exact hK
 rw [if_neg c12]
 exact updT_right hK (dos_right _ _ _ _ _)
theorem wid1_right {K : Nat → JT} {i : InstV} (hK : ∀ r, JR (K r)) : ∀ r, JR (wid1 K i r) := by
 unfold wid1
 by_cases h : (writesV i).2 = true
 · rw [if_pos h]
   by_cases h2 : (K (writesV i).1.toNat).k = 1
   · rw [if_pos h2]; exact updT_right hK full_right
   rw [if_neg h2]; exact updT_right hK j0_right
 rw [if_neg h]; exact hK
theorem widF_right {l : List InstV} : ∀ {f j : Nat} {K : Nat → JT}, (∀ r, JR (K r)) → ∀ r, JR (widF l K j f r)
 | 0, _, _, h => h
 | f + 1, j, K, h => by
   unfold widF
   exact widF_right (wid1_right h)
theorem widX_right {l : List InstV} {p : Int} {K : Nat → JT} {x : LoopV} (h : ∀ r, JR (K r)) : ∀ r, JR (widX l p K x r) := by
 unfold widX
 by_cases c : x.h = p
 · rw [if_pos c]; exact widF_right h
 rw [if_neg c]; exact h
theorem widP_right {ls : List LoopV} {l : List InstV} {p : Int} : ∀ {f k : Nat} {K : Nat → JT}, (∀ r, JR (K r)) → ∀ r, JR (widP ls l p K k f r)
 | 0, _, _, h => h
 | f + 1, k, K, h => by
   unfold widP
   exact widP_right (widX_right h)
theorem updC_right {C : Nat → Nat → JT} {p : Nat} {K : Nat → JT} (hC : ∀ p r, JR (C p r)) (hK : ∀ r, JR (K r)) : ∀ q r, JR (updC C p K q r) := by
 intro q r
 unfold updC
 by_cases h : q = p
 · rw [if_pos h]; exact hK r
 rw [if_neg h]; exact hC q r

/-- going over the places from p on -/
def widC (ls : List LoopV) (l : List InstV) (C : Nat → Nat → JT) (p : Nat) : Nat → Nat → JT := updC C p (widP ls l p (C p) 0 ls.length)
def onC (nm : Nat) (l : List InstV) (C : Nat → Nat → JT) (p : Nat) : (Nat → JT) × Int := oneV (l.getD p ins0) (C p) (C (p - (l.getD p ins0).d.toNat)) nm
def jdF (nm : Nat) (ls : List LoopV) (l : List InstV) : (Nat → Nat → JT) → (Nat → Bool) → Nat → Nat → ((Nat → Nat → JT) × (Nat → Bool)) × (Int × Int)
 | C, N, _, 0 => ((C, N), (0, 0))
 | C, N, p, f + 1 =>
   if N p = true then
    (if (onC nm l (widC ls l C p) p).2 = 0 then jdF nm ls l (waysC (l.getD p ins0) (onC nm l (widC ls l C p) p).1 p (widC ls l C p) N) (waysN (l.getD p ins0) (onC nm l (widC ls l C p) p).1 p N) (p + 1) f
     else ((widC ls l C p, N), ((p : Int), (onC nm l (widC ls l C p) p).2)))
   else jdF nm ls l C N (p + 1) f
def c0 : Nat → Nat → JT := fun _ _ => j0
def n0 : Nat → Bool := updN (fun _ => false) 0
def judV (ms : List Int) (l : List InstV) : Int × Int :=
 if goodV ms = true then (if (checkV l).2 = 0 then (jdF ms.length (loopsV l) l c0 n0 0 l.length).2 else checkV l) else (0, 2)

/-- what Check's OK says of a place -/
theorem place_of {l : List InstV} (h : CheckI l) {p : Nat} (hp : p < l.length) : (15 ≤ (l.getD p ins0).op → (l.getD p ins0).op ≤ 19 → p + (l.getD p ins0).d.toNat + 1 < l.length) ∧
 ((l.getD p ins0).op ≠ 22 → (l.getD p ins0).op ≠ 15 → p + 1 < l.length) ∧ ((l.getD p ins0).op = 20 → (l.getD p ins0).d ≤ p) ∧ rightV (l.getD p ins0) = true := by
 have hb := placesV_ok h.pl p hp
 have hr : rightV (l.getD p ins0) = true := Op.right_of_places h.pl _ (by rw [List.getD_eq_getElem?_getD, List.getElem?_eq_getElem hp]; exact List.getElem_mem hp)
 have hi := right_is hr
 have d0 := hi.d0
 unfold plBad plV at hb
 rw [if_pos hr] at hb
 by_cases h1 : (goesV (l.getD p ins0)).2.1 = true ∧ ((p : Int) + (goesV (l.getD p ins0)).1 < 0 ∨ (l.length : Int) ≤ (p : Int) + (goesV (l.getD p ins0)).1)
 · rw [if_pos h1] at hb; exact absurd hb (by decide)
 rw [if_neg h1] at hb
 by_cases h2 : (goesV (l.getD p ins0)).2.2 = true ∧ (p : Int) = (l.length : Int) - 1
 · rw [if_pos h2] at hb; exact absurd hb (by decide)
 unfold goesV at h1 h2
 rw [if_pos hr] at h1 h2
 generalize l.getD p ins0 = i at h1 h2 d0 hr ⊢
 refine ⟨fun a b => ?_, fun a b => ?_, fun a => ?_, hr⟩
 · rw [if_pos ⟨a, b⟩] at h1
   dsimp only at h1
   have : ¬ ((p : Int) + (i.d + 1) < 0 ∨ (l.length : Int) ≤ (p : Int) + (i.d + 1)) := fun e => h1 ⟨rfl, e⟩
   omega
 · by_cases c1 : 15 ≤ i.op ∧ i.op ≤ 19
   · rw [if_pos c1] at h2
     dsimp only at h2
     have : ¬ (p : Int) = (l.length : Int) - 1 := fun e => h2 ⟨by simpa using b, e⟩
     omega
   rw [if_neg c1] at h2
   by_cases c2 : i.op = 20
   · rw [if_pos c2] at h2
     dsimp only at h2
     have : ¬ (p : Int) = (l.length : Int) - 1 := fun e => h2 ⟨rfl, e⟩
     omega
   rw [if_neg c2] at h2
   dsimp only at h2
   have : ¬ (p : Int) = (l.length : Int) - 1 := fun e => h2 ⟨by simpa using a, e⟩
   omega
 rw [if_neg (by omega), if_pos a] at h1
 dsimp only at h1
 have : ¬ ((p : Int) + -i.d < 0 ∨ (l.length : Int) ≤ (p : Int) + -i.d) := fun e => h1 ⟨rfl, e⟩
 omega
/-- the loops lie within the code -/
theorem loopsT_in {l : List InstV} (h : CheckI l) : ∀ k, k ≤ l.length → ∀ x ∈ Op.loopsT l k, 0 ≤ x.h ∧ x.h < x.a ∧ x.a < (k : Int)
 | 0, _, x, hx => absurd hx (by simp [Op.loopsT])
 | k + 1, hk, x, hx => by
   unfold Op.loopsT at hx
   rcases List.mem_append.1 hx with hx | hx
   · have := loopsT_in h k (by omega) x hx
     push_cast
     omega
   by_cases c : (l.getD k ins0).op = 20
   · rw [if_pos c] at hx
     have e := List.mem_singleton.1 hx
     subst e
     have p := place_of h (p := k) (by omega)
     have hd := p.2.2.1 c
     have h1 := ((right_is p.2.2.2).l c).1
     dsimp only
     push_cast
     omega
   rw [if_neg c] at hx; cases hx
theorem loops_in {l : List InstV} (h : CheckI l) : ∀ k, k < (loopsV l).length → 0 ≤ ((loopsV l).getD k lp0).h ∧ ((loopsV l).getD k lp0).h ≤ ((loopsV l).getD k lp0).a ∧ ((loopsV l).getD k lp0).a < l.length := fun k hk => by
 have := loopsT_in h l.length (Nat.le_refl _) ((loopsV l).getD k lp0) (by rw [List.getD_eq_getElem?_getD, List.getElem?_eq_getElem hk]; exact List.getElem_mem hk)
 omega

/-- what is made for the places -/
theorem zmk : ∀ y, y < 32 → (#[.int .i64 0, .int .u64 0, .int .u64 0, .int .i64 0, .int .i64 0, .int .u64 0, .int .u64 0, .int .i64 0, .int .i64 0, .int .u64 0, .int .u64 0, .int .i64 0, .int .i64 0, .int .u64 0, .int .u64 0, .int .i64 0, .int .i64 0, .int .u64 0, .int .u64 0, .int .i64 0, .int .i64 0, .int .u64 0, .int .u64 0, .int .i64 0, .int .i64 0, .int .u64 0, .int .u64 0, .int .i64 0, .int .i64 0, .int .u64 0, .int .u64 0, .int .i64 0] : Array Value)[y]! = jcell j0 (y % 4) := by
 intro y hy
 have h : y = 0 ∨ y = 1 ∨ y = 2 ∨ y = 3 ∨ y = 4 ∨ y = 5 ∨ y = 6 ∨ y = 7 ∨ y = 8 ∨ y = 9 ∨ y = 10 ∨ y = 11 ∨ y = 12 ∨ y = 13 ∨ y = 14 ∨ y = 15 ∨ y = 16 ∨ y = 17 ∨ y = 18 ∨ y = 19 ∨ y = 20 ∨ y = 21 ∨ y = 22 ∨ y = 23 ∨ y = 24 ∨ y = 25 ∨ y = 26 ∨ y = 27 ∨ y = 28 ∨ y = 29 ∨ y = 30 ∨ y = 31 := by omega
 rcases h with rfl | rfl | rfl | rfl | rfl | rfl | rfl | rfl | rfl | rfl | rfl | rfl | rfl | rfl | rfl | rfl | rfl | rfl | rfl | rfl | rfl | rfl | rfl | rfl | rfl | rfl | rfl | rfl | rfl | rfl | rfl | rfl <;> rfl
theorem made_cams (n : Nat) : madeCells #[.int .i64 0, .int .u64 0, .int .u64 0, .int .i64 0, .int .i64 0, .int .u64 0, .int .u64 0, .int .i64 0, .int .i64 0, .int .u64 0, .int .u64 0, .int .i64 0, .int .i64 0, .int .u64 0, .int .u64 0, .int .i64 0, .int .i64 0, .int .u64 0, .int .u64 0, .int .i64 0, .int .i64 0, .int .u64 0, .int .u64 0, .int .i64 0, .int .i64 0, .int .u64 0, .int .u64 0, .int .i64 0, .int .i64 0, .int .u64 0, .int .u64 0, .int .i64 0] (n * 32) = (cams n c0).toArray := by
 apply Array.ext'
 unfold madeCells cams rg ccell c0
 simp only [Array.toList_map, Array.toList_range, List.toList_toArray]
 apply List.map_congr_left
 intro x _
 have := zmk (x % 32) (Nat.mod_lt _ (by decide))
 rw [show x % 32 % 4 = x % 4 by omega] at this
 exact this
theorem made_bls (n : Nat) : madeCells #[.bool false] n = (bls n (fun _ => false)).toArray := by
 apply Array.ext'
 unfold madeCells bls rg
 simp only [Array.toList_map, Array.toList_range, List.toList_toArray]
 apply List.map_congr_left
 intro x _
 rw [show x % (#[Value.bool false] : Array Value).size = 0 from Nat.mod_one x]
 rfl

theorem JAt.setL {w : World} {g gc ga n nc na : Nat} {mV cV lV : Value} {C : Nat → Nat → JT} {N : Nat → Bool} (h : JAt w g gc ga n nc na mV cV lV C N) (v : Value) : JAt (w.setCell ⟨g, 4, none⟩ v) g gc ga n nc na mV cV v C N :=
 ⟨h.o.set_ 4 v, h.c.far (p := ⟨g, 4, none⟩) h.ngc.symm _, h.a.far (p := ⟨g, 4, none⟩) h.nga.symm _, h.hc, h.ha⟩
theorem there_fresh (w : World) : (w.alloc (.cells #[.int .i64 0, .int .u64 0, .int .u64 0, .int .i64 0, .int .i64 0, .int .u64 0, .int .u64 0, .int .i64 0, .int .i64 0, .int .u64 0, .int .u64 0, .int .i64 0, .int .i64 0, .int .u64 0, .int .u64 0, .int .i64 0, .int .i64 0, .int .u64 0, .int .u64 0, .int .i64 0, .int .i64 0, .int .u64 0, .int .u64 0, .int .i64 0, .int .i64 0, .int .u64 0, .int .u64 0, .int .i64 0, .int .i64 0, .int .u64 0, .int .u64 0, .int .i64 0] 136)).there w.heap.size 0 32 := fun j hj => by
 rw [Nat.zero_add]
 have o := Ob.fresh w 136 [.int .i64 0, .int .u64 0, .int .u64 0, .int .i64 0, .int .i64 0, .int .u64 0, .int .u64 0, .int .i64 0, .int .i64 0, .int .u64 0, .int .u64 0, .int .i64 0, .int .i64 0, .int .u64 0, .int .u64 0, .int .i64 0, .int .i64 0, .int .u64 0, .int .u64 0, .int .i64 0, .int .i64 0, .int .u64 0, .int .u64 0, .int .i64 0, .int .i64 0, .int .u64 0, .int .u64 0, .int .i64 0, .int .i64 0, .int .u64 0, .int .u64 0, .int .i64 0]
 exact ⟨by rw [o.cell, ← kc_zero2, kc_rg, rg_get _ _ hj]; rfl, o.frozen _⟩
theorem jtch_below {w w' : World} {gc ga B : Nat} {w0 : World} (k : JTch w w' gc ga) (h : Below B w0 w) (hB : B ≤ w.heap.size) (h1 : B ≤ gc) (h2 : B ≤ ga) : Below B w0 w' := Tch.below k h hB (fun i hi e => by rcases e with rfl | rfl <;> omega)
theorem known_sz : (Tryz.prog.info? 136).map (fun i => (i.size, i.bytes)) = some (32, 256) := by kernel_rfl
theorem known_z : (Tryz.prog.info? 136).map (fun i => i.zero.map (·.cells)) = some (some #[.int .i64 0, .int .u64 0, .int .u64 0, .int .i64 0, .int .i64 0, .int .u64 0, .int .u64 0, .int .i64 0, .int .i64 0, .int .u64 0, .int .u64 0, .int .i64 0, .int .i64 0, .int .u64 0, .int .u64 0, .int .i64 0, .int .i64 0, .int .u64 0, .int .u64 0, .int .i64 0, .int .i64 0, .int .u64 0, .int .u64 0, .int .i64 0, .int .i64 0, .int .u64 0, .int .u64 0, .int .i64 0, .int .i64 0, .int .u64 0, .int .u64 0, .int .i64 0]) := by kernel_rfl
theorem bool_z : (Tryz.prog.info? 4).map (fun i => (i.zero.map (·.cells), i.size, i.bytes)) = some (some #[.bool false], 1, 1) := by kernel_rfl
theorem make_came (w : World) (n : Nat) (hn : n ≤ 64) : (Instr.makeSlice 122 (.int .i64 n) (.int .i64 n)).run Tryz.prog w = .ok (.slice (some ⟨w.heap.size, 0, none⟩) n n) (w.alloc (.cells (cams n c0).toArray 136)) := by
 obtain ⟨i, hi⟩ := Option.isSome_iff_exists.1 (show (Tryz.prog.info? 136).isSome = true by kernel_rfl)
 have h1 := known_sz
 have h2 := known_z
 rw [hi] at h1 h2
 simp only [Option.map_some, Option.some.injEq, Prod.mk.injEq] at h1 h2
 obtain ⟨z, hz, hzc⟩ := Option.map_eq_some_iff.1 h2
 have := run_make (P := Tryz.prog) w 122 136 i z (by kernel_rfl) hi hz .i64 .i64 n n (by omega) (by omega) (by rw [h1.2]; omega) (by omega)
 rw [h1.1, hzc, Int.toNat_natCast, made_cams] at this
 exact this
theorem make_any (w : World) (n : Nat) (hn : n ≤ 64) : (Instr.makeSlice 123 (.int .i64 n) (.int .i64 n)).run Tryz.prog w = .ok (.slice (some ⟨w.heap.size, 0, none⟩) n n) (w.alloc (.cells (bls n (fun _ => false)).toArray 4)) := by
 obtain ⟨i, hi⟩ := Option.isSome_iff_exists.1 (show (Tryz.prog.info? 4).isSome = true by kernel_rfl)
 have h1 := bool_z
 rw [hi] at h1
 simp only [Option.map_some, Option.some.injEq, Prod.mk.injEq] at h1
 obtain ⟨z, hz, hzc⟩ := Option.map_eq_some_iff.1 h1.1
 have := run_make (P := Tryz.prog) w 123 4 i z (by kernel_rfl) hi hz .i64 .i64 n n (by omega) (by omega) (by rw [h1.2.2]; omega) (by omega)
 rw [h1.2.1, hzc, Int.toNat_natCast, Nat.mul_one, made_bls] at this
 exact this

end Go.Proofs.YtikkmkomlajnfaaGreatDoor.Jd
end

section
namespace Go.Proofs.YtikkmkomlajnfaaGreatDoor.Jd
set_option maxRecDepth 100000
set_option maxHeartbeats 16000000
open Go.RowKit
open Go.Proofs.YtikkmkomlajnfaaGreatDoor.Op (InstV insc insVal inss ins0 ins_at rightV right_is Frm goesV writesV sourceV LoopV lpc lps lp0 lp_at loopsV checkV CheckI check_is placesV_ok plBad plV)

theorem judged_any (w : World) (l : List InstV) (ms : List Int) (mA cA : Option Addr) (nm cm n c : Nat) (hn : n = l.length) (hnc : n ≤ c) (hnm : nm = ms.length) (hmc : nm ≤ cm) (hmm : nm ≤ 140737488351232)
 (hf : Frm w) (ht : Sg.Tab w) (hs : Sl w cA (inss l)) (hm : Sl w mA (ints ms)) :
 Calls Tryz.prog 29 #[.agg #[.slice mA nm cm, .slice cA n c]] w fun e w' => (∃ pv, e = .returned (.tuple #[pv, .int .i64 (judV ms l).1, .int .i64 (judV ms l).2])) ∧ Below w.heap.size w w' := by
 have HN := Lib.hid hn
 have HNC := Lib.hid hnc
 have HNM := Lib.hid hnm
 have HMC := Lib.hid hmc
 have HMM := Lib.hid hmm
 have HF := Lib.hid hf
 have HT := Lib.hid ht
 have HS := Lib.hid hs
 have HMS := Lib.hid hm
 obtain ⟨V, hV⟩ : ∃ V, judV ms l = V := ⟨_, rfl⟩
 rw [hV]
 have HV := Lib.hid hV
 have B0 := Lib.hid (Below.refl w.heap.size w)
 clear hn hnc hnm hmc hmm hf ht hs hm hV
 go_enter Tryz.func29, Tryz.ntmps29
 go_upto_region 1 with fail
 have O1 := Lib.hid (Ob.fresh w 25 [.slice mA nm cm, .slice cA n c])
 have B1 := Lib.hid (below_alloc (B0.out) (.cells #[.slice mA nm cm, .slice cA n c] 25))
 have Hq1 := Lib.hid (show w.heap.size ≤ w.heap.size by have := B0.out.size; omega)
 clear B0
 generalize (w.alloc (.cells #[.slice mA nm cm, .slice cA n c] 25)) = w1 at O1 B1 ⊢
 obtain ⟨q1, hq1⟩ : ∃ q1, w.heap.size = q1 := ⟨_, rfl⟩
 have Hq1 := Lib.hid (Nat.le_of_eq hq1)
 rw [hq1] at O1 ⊢
 clear hq1
 have m0 := O1.out.c0
 have m1 := O1.out.c1
 have HG := Lib.hid (good_any w1 ms mA nm cm HNM.out HMC.out HMM.out (HMS.out.below B1.out))
 go_wp2_with fail
 refine HG.out.mono ?_
 rintro e w2 ⟨rfl, rfl⟩
 clear HG
 obtain ⟨G, hG⟩ : ∃ G, goodV ms = G := ⟨_, rfl⟩
 rw [hG]
 cases G
 · have HV2 := Lib.hid (show (((0, 2) : Int × Int)) = V from by rw [← HV.out]; unfold judV; rw [if_neg (by rw [hG]; decide)])
   clear hG HV
   go_wp2_with fail
   exact bodyPost_ret (v := .tuple #[.pointer none, .int .i64 0, .int .i64 2]) (by simp [results, Tryz.results29, go_sem]) rfl ⟨⟨_, by rw [← HV2.out] <;> first | done | rfl⟩, B1.out⟩
 have HV2 := Lib.hid (show (if (checkV l).2 = 0 then (jdF ms.length (loopsV l) l c0 n0 0 l.length).2 else checkV l) = V from by rw [← HV.out]; unfold judV; rw [if_pos hG])
 clear hG HV
 have HCK := Lib.hid (Op.check_any w1 l cA n c HN.out (HF.out.below B1.out) (HS.out.below B1.out))
 go_wp2_with fail
 refine HCK.out.mono ?_
 rintro e w2 ⟨rfl, b2⟩
 have B2 := Lib.hid (B1.out.trans (b2.mono B1.out.size))
 have O2 := Lib.hid (O1.out.below b2 O1.out.lt)
 clear b2 B1 O1 m0 m1 HCK
 obtain ⟨kp, hkp⟩ : ∃ kp, (checkV l).1 = kp := ⟨_, rfl⟩
 obtain ⟨ke, hke⟩ : ∃ ke, (checkV l).2 = ke := ⟨_, rfl⟩
 rw [hkp, hke]
 by_cases h0 : ke = 0
 · subst h0
   have HCI := Lib.hid (check_is hke)
   have HKE := Lib.hid hke
   have HV3 := Lib.hid (show (jdF nm (loopsV l) l c0 n0 0 n).2 = V from by rw [← HV2.out, if_pos hke, HNM.out, HN.out])
   clear hkp hke HV2
   have hn64 : n ≤ 64 := by have := HCI.out.n1; have := HN.out; omega
   have HN64 := Lib.hid hn64
   have hmk1 := fun w => make_came w n hn64
   have hmk2 := fun w => make_any w n hn64
   clear hn64
   have m0 := O2.out.c0
   have m1 := O2.out.c1
   go_upto_region 6 with fail
   go_cut [7] (fun s7 w' => ∃ g gc ga, s7 = .pointer (some ⟨g, 0, none⟩) ∧ JAt w' g gc ga n n n (.slice mA nm cm) (.slice cA n c) (.slice none 0 0) c0 (fun _ => false) ∧ Below w2.heap.size w2 w' ∧ w2.heap.size ≤ g ∧ w2.heap.size ≤ gc ∧ w2.heap.size ≤ ga)
   case first =>
    have KS := Lib.hid (show ∀ w', Below w2.heap.size w2 w' → (w'.cell? ⟨q1, 0, none⟩ = some (.slice mA nm cm) ∧ w'.cell? ⟨q1, 1, none⟩ = some (.slice cA n c)) from fun w' hb => ⟨keepS hb m0, keepS hb m1⟩)
    clear m0 m1
    obtain ⟨wd, hwd⟩ : ∃ wd, w2.drew = wd := ⟨_, rfl⟩
    have BD := Lib.hid (show Below w2.heap.size w2 wd from hwd ▸ below_drewN (Below.refl w2.heap.size w2) 1)
    refine wp_region_held_drew (S := fun w' => (w'.cell? ⟨q1, 0, none⟩ = some (.slice mA nm cm) ∧ w'.cell? ⟨q1, 1, none⟩ = some (.slice cA n c))) (by kernel_rfl) (hwd ▸ KS.out wd BD.out) (fun hHeld => ?_)
    refine tkq 0 25 rfl (by kernel_rfl) (by rfl) hHeld (fun _ _ _ h => h) (by intro w' hSw; go_simp; try with_reducible rfl) ?_
    simp only [Act.put, spa, spb, spc]
    refine tkq 1 26 rfl (by kernel_rfl) (by rfl) hHeld (fun _ _ _ h => h) (by intro w' hSw; go_simp; try with_reducible rfl) ?_
    simp only [Act.put, spa, spb, spc]
    refine tkq 2 27 rfl (by kernel_rfl) (by rfl) hHeld (fun _ _ _ h => h) (by intro w' hSw; go_simp; try with_reducible rfl) ?_
    simp only [Act.put, spa, spb, spc]
    refine tkq 3 28 rfl (by kernel_rfl) (by rfl) hHeld (fun _ _ _ h => h) (by intro w' hSw; go_simp; try with_reducible rfl) ?_
    simp only [Act.put, spa, spb, spc]
    refine tkq 5 30 rfl (by kernel_rfl) (by rfl) hHeld (fun _ _ _ h => h) (by intro w' hSw; go_simp; try with_reducible rfl) ?_
    simp only [Act.put, spa, spb, spc]
    refine tkq 6 31 rfl (by kernel_rfl) (by rfl) hHeld (fun _ _ _ h => h) (by intro w' hSw; go_simp; try with_reducible rfl) ?_
    simp only [Act.put, spa, spb, spc]
    refine tkq 7 32 rfl (by kernel_rfl) (by rfl) hHeld (fun _ _ _ h => h) (by intro w' hSw; go_simp; try with_reducible rfl) ?_
    simp only [Act.put, spa, spb, spc]
    refine wpAnyH_ready (rs := [4, 8]) (by kernel_rfl) (by simp) ?_
    refine AllReadyH.cons (o := ⟨some 29, _, _, _, _, _⟩) rfl (fun K' hK => ?_) ?_
    · go_simp
      refine hK.out _ _ (KS.out _ (below_alloc BD.out (.cells (cams n c0).toArray 136))) (fun hHeld => ?_)
      clear hK K'
      clear hHeld
      have Nc := Lib.hid (Ob.fresh wd 136 (cams n c0))
      have BA := Lib.hid (below_alloc (BD.out) (.cells (cams n c0).toArray 136))
      have Hgc := Lib.hid (show w2.heap.size ≤ wd.heap.size by have := BD.out.size; omega)
      clear BD
      generalize (wd.alloc (.cells (cams n c0).toArray 136)) = wa at Nc BA ⊢
      obtain ⟨gc, hgc⟩ : ∃ gc, wd.heap.size = gc := ⟨_, rfl⟩
      rw [hgc] at Nc Hgc ⊢
      clear hgc
      have hHeld := KS.out _ BA.out
      refine rdq 8 ⟨some 33, _, _, _, _, _⟩ (by kernel_rfl) rfl (fun K' hK => ?_)
      go_simp
      refine hK.out _ _ (KS.out _ (below_alloc BA.out (.cells (bls n (fun _ => false)).toArray 4))) (fun hHeld => ?_)
      clear hK K'
      clear hHeld
      have Na := Lib.hid (Ob.fresh wa 4 (bls n (fun _ => false)))
      have Mc := Lib.hid (Ob.alloc (Nc.out) (.cells (bls n (fun _ => false)).toArray 4))
      have BB := Lib.hid (below_alloc (BA.out) (.cells (bls n (fun _ => false)).toArray 4))
      have Hga := Lib.hid (show w2.heap.size ≤ wa.heap.size by have := BA.out.size; omega)
      clear BA Nc
      generalize (wa.alloc (.cells (bls n (fun _ => false)).toArray 4)) = wb at Na Mc BB ⊢
      obtain ⟨ga, hga⟩ : ∃ ga, wa.heap.size = ga := ⟨_, rfl⟩
      rw [hga] at Na Hga ⊢
      clear hga
      have hHeld := KS.out _ BB.out
      refine tkq 9 34 rfl (by kernel_rfl) (by rfl) hHeld (fun _ _ _ h => h) (by intro w' hSw; go_simp; try with_reducible rfl) ?_
      simp only [Act.put, spa, spb, spc]
      refine rdq 10 ⟨some 35, _, _, _, _, _⟩ (by kernel_rfl) rfl (fun K' hK => ?_)
      go_simp
      refine hK.out _ _ (KS.out _ (below_alloc BB.out (.cells #[.slice mA nm cm, .slice cA n c, .slice (some ⟨gc, 0, none⟩) n n, .slice (some ⟨ga, 0, none⟩) n n, .slice none 0 0] 126))) (fun hHeld => ?_)
      clear hK K'
      clear hHeld
      have NJ := Lib.hid (Ob.fresh wb 126 [.slice mA nm cm, .slice cA n c, .slice (some ⟨gc, 0, none⟩) n n, .slice (some ⟨ga, 0, none⟩) n n, .slice none 0 0])
      have FC := Lib.hid (Ob.alloc (Mc.out) (.cells #[.slice mA nm cm, .slice cA n c, .slice (some ⟨gc, 0, none⟩) n n, .slice (some ⟨ga, 0, none⟩) n n, .slice none 0 0] 126))
      have FA := Lib.hid (Ob.alloc (Na.out) (.cells #[.slice mA nm cm, .slice cA n c, .slice (some ⟨gc, 0, none⟩) n n, .slice (some ⟨ga, 0, none⟩) n n, .slice none 0 0] 126))
      have BC := Lib.hid (below_alloc (BB.out) (.cells #[.slice mA nm cm, .slice cA n c, .slice (some ⟨gc, 0, none⟩) n n, .slice (some ⟨ga, 0, none⟩) n n, .slice none 0 0] 126))
      have Hgj := Lib.hid (show w2.heap.size ≤ wb.heap.size by have := BB.out.size; omega)
      clear BB Mc Na
      generalize (wb.alloc (.cells #[.slice mA nm cm, .slice cA n c, .slice (some ⟨gc, 0, none⟩) n n, .slice (some ⟨ga, 0, none⟩) n n, .slice none 0 0] 126)) = wq at NJ FC FA BC ⊢
      obtain ⟨gj, hgj⟩ : ∃ gj, wb.heap.size = gj := ⟨_, rfl⟩
      rw [hgj] at NJ Hgj ⊢
      clear hgj
      have hHeld := KS.out _ BC.out
      refine tkq 11 7 rfl (by kernel_rfl) (by rfl) hHeld (fun _ _ _ h => h) (by intro w' hSw; go_simp; try with_reducible rfl) ?_
      simp only [Act.put, spa, spb, spc]
      refine wpAnyH_done (by kernel_rfl) ?_ _
      go_wp2_with fail
      go_meet
      exact ⟨gj, gc, ga, rfl, ⟨NJ.out, FC.out, FA.out, Nat.le_refl _, Nat.le_refl _⟩, BC.out, Hgj.out, Hgc.out, Hga.out⟩
    refine AllReadyH.cons (o := ⟨some 33, _, _, _, _, _⟩) rfl (fun K' hK => ?_) AllReadyH.nil
    go_simp
    refine hK.out _ _ (KS.out _ (below_alloc BD.out (.cells (bls n (fun _ => false)).toArray 4))) (fun hHeld => ?_)
    clear hK K'
    clear hHeld
    have Na := Lib.hid (Ob.fresh wd 4 (bls n (fun _ => false)))
    have BA := Lib.hid (below_alloc (BD.out) (.cells (bls n (fun _ => false)).toArray 4))
    have Hga := Lib.hid (show w2.heap.size ≤ wd.heap.size by have := BD.out.size; omega)
    clear BD
    generalize (wd.alloc (.cells (bls n (fun _ => false)).toArray 4)) = wa at Na BA ⊢
    obtain ⟨ga, hga⟩ : ∃ ga, wd.heap.size = ga := ⟨_, rfl⟩
    rw [hga] at Na Hga ⊢
    clear hga
    have hHeld := KS.out _ BA.out
    refine rdq 4 ⟨some 29, _, _, _, _, _⟩ (by kernel_rfl) rfl (fun K' hK => ?_)
    go_simp
    refine hK.out _ _ (KS.out _ (below_alloc BA.out (.cells (cams n c0).toArray 136))) (fun hHeld => ?_)
    clear hK K'
    clear hHeld
    have Nc := Lib.hid (Ob.fresh wa 136 (cams n c0))
    have Ma := Lib.hid (Ob.alloc (Na.out) (.cells (cams n c0).toArray 136))
    have BB := Lib.hid (below_alloc (BA.out) (.cells (cams n c0).toArray 136))
    have Hgc := Lib.hid (show w2.heap.size ≤ wa.heap.size by have := BA.out.size; omega)
    clear BA Na
    generalize (wa.alloc (.cells (cams n c0).toArray 136)) = wb at Nc Ma BB ⊢
    obtain ⟨gc, hgc⟩ : ∃ gc, wa.heap.size = gc := ⟨_, rfl⟩
    rw [hgc] at Nc Hgc ⊢
    clear hgc
    have hHeld := KS.out _ BB.out
    refine tkq 9 34 rfl (by kernel_rfl) (by rfl) hHeld (fun _ _ _ h => h) (by intro w' hSw; go_simp; try with_reducible rfl) ?_
    simp only [Act.put, spa, spb, spc]
    refine rdq 10 ⟨some 35, _, _, _, _, _⟩ (by kernel_rfl) rfl (fun K' hK => ?_)
    go_simp
    refine hK.out _ _ (KS.out _ (below_alloc BB.out (.cells #[.slice mA nm cm, .slice cA n c, .slice (some ⟨gc, 0, none⟩) n n, .slice (some ⟨ga, 0, none⟩) n n, .slice none 0 0] 126))) (fun hHeld => ?_)
    clear hK K'
    clear hHeld
    have NJ := Lib.hid (Ob.fresh wb 126 [.slice mA nm cm, .slice cA n c, .slice (some ⟨gc, 0, none⟩) n n, .slice (some ⟨ga, 0, none⟩) n n, .slice none 0 0])
    have FC := Lib.hid (Ob.alloc (Nc.out) (.cells #[.slice mA nm cm, .slice cA n c, .slice (some ⟨gc, 0, none⟩) n n, .slice (some ⟨ga, 0, none⟩) n n, .slice none 0 0] 126))
    have FA := Lib.hid (Ob.alloc (Ma.out) (.cells #[.slice mA nm cm, .slice cA n c, .slice (some ⟨gc, 0, none⟩) n n, .slice (some ⟨ga, 0, none⟩) n n, .slice none 0 0] 126))
    have BC := Lib.hid (below_alloc (BB.out) (.cells #[.slice mA nm cm, .slice cA n c, .slice (some ⟨gc, 0, none⟩) n n, .slice (some ⟨ga, 0, none⟩) n n, .slice none 0 0] 126))
    have Hgj := Lib.hid (show w2.heap.size ≤ wb.heap.size by have := BB.out.size; omega)
    clear BB Nc Ma
    generalize (wb.alloc (.cells #[.slice mA nm cm, .slice cA n c, .slice (some ⟨gc, 0, none⟩) n n, .slice (some ⟨ga, 0, none⟩) n n, .slice none 0 0] 126)) = wq at NJ FC FA BC ⊢
    obtain ⟨gj, hgj⟩ : ∃ gj, wb.heap.size = gj := ⟨_, rfl⟩
    rw [hgj] at NJ Hgj ⊢
    clear hgj
    have hHeld := KS.out _ BC.out
    refine tkq 11 7 rfl (by kernel_rfl) (by rfl) hHeld (fun _ _ _ h => h) (by intro w' hSw; go_simp; try with_reducible rfl) ?_
    simp only [Act.put, spa, spb, spc]
    refine wpAnyH_done (by kernel_rfl) ?_ _
    go_wp2_with fail
    go_meet
    exact ⟨gj, gc, ga, rfl, ⟨NJ.out, FC.out, FA.out, Nat.le_refl _, Nat.le_refl _⟩, BC.out, Hgj.out, Hgc.out, Hga.out⟩
   case rest =>
    obtain ⟨g, gc, ga, rfl, hj, hb, h1, h2, h3⟩ := hcut
    have J3 := Lib.hid hj
    have B3 := Lib.hid (B2.out.trans (hb.mono B2.out.size))
    have O3 := Lib.hid (O2.out.below hb O2.out.lt)
    have HGJ := Lib.hid (show w.heap.size ≤ g from Nat.le_trans B2.out.size h1)
    have HGC := Lib.hid (show w.heap.size ≤ gc from Nat.le_trans B2.out.size h2)
    have HGA := Lib.hid (show w.heap.size ≤ ga from Nat.le_trans B2.out.size h3)
    clear hj hb h1 h2 h3 m0 m1 O2 B2 hmk1 hmk2
    have m1 := O3.out.c1
    have HLO := Lib.hid (Op.loopsy_any wc l cA n c HN.out HKE.out (HF.out.below B3.out) (HS.out.below B3.out))
    go_wp2_with fail
    refine HLO.out.mono ?_
    rintro e w4 ⟨lA, lc, rfl, hlc, hsl, b4, hap⟩
    have HLC := Lib.hid hlc
    have SL4 := Lib.hid hsl
    have HAP := Lib.hid hap
    have J4 := Lib.hid (J3.out.below b4)
    have B4 := Lib.hid (B3.out.trans (b4.mono B3.out.size))
    have HGW := Lib.hid (And.intro J3.out.o.lt (And.intro J3.out.c.lt J3.out.a.lt))
    have O4 := Lib.hid (O3.out.below b4 O3.out.lt)
    clear b4 J3 O3 m1 HLO hlc hsl hap
    have y4 : w4.cell? ⟨g, 4, none⟩ = some (.slice none 0 0) := J4.out.o.cell 4
    have fz := J4.out.o.frozen
    go_upto_region 8 with fail
    clear y4 fz
    have J5 := Lib.hid (J4.out.setL (.slice lA (loopsV l).length lc))
    have B5 := Lib.hid (B4.out.setCell (p := ⟨g, 4, none⟩) HGJ.out (.slice lA (loopsV l).length lc))
    have SL5 := Lib.hid (sl_tch SL4.out (Tch.setCell (S := fun i => i = g) (p := ⟨g, 4, none⟩) (Tch.refl _ w4) rfl (.slice lA (loopsV l).length lc)) (fun a ha e => by have h1 := HAP.out a ha; have h2 := HGW.out.1; omega))
    have O5 := Lib.hid (O4.out.far (p := ⟨g, 4, none⟩) (O4.out.ne_ J4.out.o (by decide)) (.slice lA (loopsV l).length lc))
    generalize w4.setCell ⟨g, 4, none⟩ (.slice lA (loopsV l).length lc) = w5 at J5 B5 SL5 O5 ⊢
    clear J4 B4 SL4 O4
    have y3 : w5.cell? ⟨g, 3, none⟩ = some (.slice (some ⟨ga, 0, none⟩) n n) := J5.out.o.cell 3
    have y5 : w5.cell? ⟨ga, 0, none⟩ = some (.bool false) := (J5.out.a.cell 0).trans (bls_get _ (by have := HCI.out.n0; have := HN.out; omega))
    have fz := J5.out.a.frozen
    have gn0 : (0 : Int) < (n : Int) := by have := HCI.out.n0; have := HN.out; omega
    go_upto_region 9 with fail
    clear y3 y5 fz
    have J6 := Lib.hid (show JAt (w5.setCell ⟨ga, 0, none⟩ (.bool true)) g gc ga n n n (.slice mA nm cm) (.slice cA n c) (.slice lA (loopsV l).length lc) c0 n0 from J5.out.setN 0)
    have B6 := Lib.hid (B5.out.setCell (p := ⟨ga, 0, none⟩) HGA.out (.bool true))
    have SL6 := Lib.hid (sl_tch SL5.out (Tch.setCell (S := fun i => i = ga) (p := ⟨ga, 0, none⟩) (Tch.refl _ w5) rfl (.bool true)) (fun a ha e => by have h1 := HAP.out a ha; have h2 := HGW.out.2.2; omega))
    have m1 : (w5.setCell ⟨ga, 0, none⟩ (.bool true)).cell? ⟨q1, 1, none⟩ = some (.slice cA n c) := (O5.out.far (p := ⟨ga, 0, none⟩) (O5.out.ne_ J5.out.a (by decide)) (.bool true)).cell 1
    generalize w5.setCell ⟨ga, 0, none⟩ (.bool true) = w6 at J6 B6 SL6 m1 ⊢
    clear J5 B5 SL5 O5
    obtain ⟨bc, oc, hca, hbc, _⟩ := ins_at HS.out (by have := HCI.out.n0; omega)
    have E6 := Lib.hid (show JEnv w6 gc ga cA lA l (loopsV l) from ⟨HF.out.below B6.out, HT.out.below B6.out, by have h1 := HF.out.lt; have h2 := HGC.out; have h3 := HGA.out; omega, by have h1 := HT.out.lt; have h2 := HGC.out; have h3 := HGA.out; omega, HS.out.below B6.out, SL6.out,
     fun a ha => by rw [hca] at ha; injection ha with ha; subst ha; dsimp only; have h2 := HGC.out; have h3 := HGA.out; omega, fun a ha => by have h1 := HAP.out a ha; have h2 := HGW.out; omega⟩)
    clear hca hbc SL6 gn0
    have HRI := Lib.hid (Op.right_of_places HCI.out.pl)
    have HLI := Lib.hid (loops_in HCI.out)
    have HLL := Lib.hid (show (loopsV l).length ≤ 64 from Nat.le_trans (Op.loopsV_len l) HCI.out.n1)
    obtain ⟨L, hL⟩ : ∃ L, (loopsV l).length = L := ⟨_, rfl⟩
    have HLE := Lib.hid hL
    rw [hL] at J6 HLC HLI HLL ⊢
    clear hL
    go_wp2_with fail
    go_loopw [53] (fun i wr => ∃ (k : Nat) (C : Nat → Nat → JT) (N : Nat → Bool), k ≤ n ∧ i = .int .i64 k ∧ (jdF nm (loopsV l) l C N k (n - k)).2 = V ∧ JAt wr g gc ga n n n (.slice mA nm cm) (.slice cA n c) (.slice lA L lc) C N ∧ JTch w6 wr gc ga ∧ (∀ p r, JR (C p r))) (fun i _ => n - (intOf i).toNat)
    case atStart => exact ⟨0, c0, n0, Nat.zero_le _, rfl, HV3.out, J6.out, JTch.refl _ _ _, fun _ _ => j0_right⟩
    case round =>
     obtain ⟨k, C, N, hk, rfl, hv, hj, ht, hr⟩ := hrel
     have HV4 := Lib.hid hv
     have JW := Lib.hid hj
     have TW := Lib.hid ht
     have CR := Lib.hid hr
     clear hv hj ht hr J6 HV3 m1
     by_cases hlt : k < n
     · have g1 : (k : Int) < (n : Int) := by omega
       have g0 : (0 : Int) ≤ (k : Int) := by omega
       have g4 : wrap64 ((k : Int) + 1) = (k : Int) + 1 := by have := HN64.out; unfold wrap64; omega
       have y3 : wr.cell? ⟨g, 3, none⟩ = some (.slice (some ⟨ga, 0, none⟩) n n) := JW.out.o.cell 3
       have y5 : wr.cell? ⟨ga, k, none⟩ = some (.bool (N k)) := (JW.out.a.cell k).trans (bls_get _ hlt)
       have HST := Lib.hid (show jdF nm (loopsV l) l C N k (n - k) = (if N k = true then
        (if (onC nm l (widC (loopsV l) l C k) k).2 = 0 then jdF nm (loopsV l) l (waysC (l.getD k ins0) (onC nm l (widC (loopsV l) l C k) k).1 k (widC (loopsV l) l C k) N) (waysN (l.getD k ins0) (onC nm l (widC (loopsV l) l C k) k).1 k N) (k + 1) (n - (k + 1))
         else ((widC (loopsV l) l C k, N), ((k : Int), (onC nm l (widC (loopsV l) l C k) k).2)))
        else jdF nm (loopsV l) l C N (k + 1) (n - (k + 1))) from by rw [show n - k = (n - (k + 1)) + 1 by omega]; rfl)
       obtain ⟨b, hNk⟩ : ∃ b, N k = b := ⟨_, rfl⟩
       rw [hNk] at y5 HST
       clear hNk
       cases b
       · have HV5 := Lib.hid (show (jdF nm (loopsV l) l C N (k + 1) (n - (k + 1))).2 = V from by rw [← HV4.out, HST.out]; rfl)
         clear HST HV4
         go_wp2_with fail
         go_roundw
         case rel => exact ⟨k + 1, C, N, Nat.succ_le_of_lt hlt, by first | exact congrArg (Value.int .i64) (g4.trans (by push_cast; rfl)) | go_num, HV5.out, JW.out, TW.out, CR.out⟩
         case measure => first | exact Op.meas_lt hlt | (rw [g4]; exact Op.meas_lt hlt)
       obtain ⟨C1, hC1⟩ : ∃ C1, widC (loopsV l) l C k = C1 := ⟨_, rfl⟩
       have HC1 := Lib.hid hC1
       have CR1 := Lib.hid (show ∀ p r, JR (C1 p r) from hC1 ▸ updC_right CR.out (widP_right (CR.out k)))
       rw [hC1] at HST
       clear hC1
       obtain ⟨O, hO⟩ : ∃ O, onC nm l C1 k = O := ⟨_, rfl⟩
       have HO := Lib.hid (show oneV (l.getD k ins0) (C1 k) (C1 (k - (l.getD k ins0).d.toNat)) nm = O from hO)
       have KR := Lib.hid (show ∀ r, JR (O.1 r) from hO ▸ one_right (CR1.out k))
       rw [hO] at HST
       clear hO
       obtain ⟨K', e'⟩ := O
       dsimp only at HST KR
       have EW := Lib.hid (E6.out.tch TW.out)
       go_wp2_with fail
       refine (widen_any wr g gc ga n n n (.slice mA nm cm) cA lA c L lc C N k l (loopsV l) hlt HN64.out HN.out HNC.out HLE.out.symm HLL.out HRI.out (fun x hx => by have := HLI.out x hx; have := HN.out; omega) EW.out JW.out).mono ?_
       rintro e w7 ⟨rfl, j7, t7⟩
       have J7 := Lib.hid (show JAt w7 g gc ga n n n (.slice mA nm cm) (.slice cA n c) (.slice lA L lc) C1 N from by rw [← HC1.out]; unfold widC; rw [HLE.out]; exact j7)
       have T7 := Lib.hid (JTch.trans TW.out t7)
       have E7 := Lib.hid (EW.out.tch t7)
       clear j7 t7 JW TW EW y3 y5
       go_upto_region 14 with fail
       have PL := Lib.hid (place_of HCI.out (p := k) (by have := HN.out; omega))
       have H1 := Lib.hid (one_any w7 g gc ga n n n mA nm cm cA lA c L lc C1 N k l (loopsV l) hlt HN64.out HN.out HMM.out HRI.out PL.out.2.2.1 E7.out J7.out)
       rw [HO.out] at H1
       unfold kVal at H1
       dsimp only at H1
       go_wp2_with fail
       refine H1.out.mono ?_
       rintro e w8 ⟨rfl, b8⟩
       have J8 := Lib.hid (J7.out.below b8)
       have E8 := Lib.hid (E7.out.below b8)
       have T8 := Lib.hid (JTch.trans T7.out (JTch.of b8))
       clear b8 J7 E7 T7 H1
       have BB8 := Lib.hid (Below.refl w8.heap.size w8)
       have th := Lib.hid (there_fresh w8)
       go_upto_region 15 with ((with_reducible refine wpList_store_mid ?_ 136 (.tmp 9) (.tmp 71) ?_ w8.heap.size (0) (kc K').toArray ?_ ?_ ?_ ?_ ?_ ?_); rfl; rfl; rfl; rfl; (exact th.out); (rw [known_info]; rfl); (exact all_oneCell_toArray (kc_one K')))
       have B9 := Lib.hid (below_setCells (Nat.le_refl _) (kc K') 0 (below_alloc BB8.out (.cells #[.int .i64 0, .int .u64 0, .int .u64 0, .int .i64 0, .int .i64 0, .int .u64 0, .int .u64 0, .int .i64 0, .int .i64 0, .int .u64 0, .int .u64 0, .int .i64 0, .int .i64 0, .int .u64 0, .int .u64 0, .int .i64 0, .int .i64 0, .int .u64 0, .int .u64 0, .int .i64 0, .int .i64 0, .int .u64 0, .int .u64 0, .int .i64 0, .int .i64 0, .int .u64 0, .int .u64 0, .int .i64 0, .int .i64 0, .int .u64 0, .int .u64 0, .int .i64 0] 136)))
       have O9 := Lib.hid (ob_over (Ob.fresh w8 136 [.int .i64 0, .int .u64 0, .int .u64 0, .int .i64 0, .int .i64 0, .int .u64 0, .int .u64 0, .int .i64 0, .int .i64 0, .int .u64 0, .int .u64 0, .int .i64 0, .int .i64 0, .int .u64 0, .int .u64 0, .int .i64 0, .int .i64 0, .int .u64 0, .int .u64 0, .int .i64 0, .int .i64 0, .int .u64 0, .int .u64 0, .int .i64 0, .int .i64 0, .int .u64 0, .int .u64 0, .int .i64 0, .int .i64 0, .int .u64 0, .int .u64 0, .int .i64 0]) (show (kc K').length = _ from rfl))
       have J9 := Lib.hid (J8.out.below B9.out)
       have E9 := Lib.hid (E8.out.below B9.out)
       have T9 := Lib.hid (JTch.trans T8.out (JTch.of B9.out))
       clear J8 E8 T8 BB8 th B9
       generalize (w8.alloc (.cells #[.int .i64 0, .int .u64 0, .int .u64 0, .int .i64 0, .int .i64 0, .int .u64 0, .int .u64 0, .int .i64 0, .int .i64 0, .int .u64 0, .int .u64 0, .int .i64 0, .int .i64 0, .int .u64 0, .int .u64 0, .int .i64 0, .int .i64 0, .int .u64 0, .int .u64 0, .int .i64 0, .int .i64 0, .int .u64 0, .int .u64 0, .int .i64 0, .int .i64 0, .int .u64 0, .int .u64 0, .int .i64 0, .int .i64 0, .int .u64 0, .int .u64 0, .int .i64 0] 136)).setCells w8.heap.size 0 (kc K') = w9 at J9 E9 T9 O9 ⊢
       generalize w8.heap.size = q9 at O9 ⊢
       by_cases h0 : e' = 0
       · subst h0
         have HV5 := Lib.hid (show (jdF nm (loopsV l) l (waysC (l.getD k ins0) K' k C1 N) (waysN (l.getD k ins0) K' k N) (k + 1) (n - (k + 1))).2 = V from by rw [← HV4.out, HST.out]; rfl)
         clear HST HV4
         have lk := Lib.hid (show w9.rangeAt q9 0 (kc K') from fun j v hv => by rw [Nat.zero_add, O9.out.cell, hv])
         go_wp2_with ((with_reducible refine wpList_load_mid ?_ 136 (.tmp 9) ?_ q9 (0) ?_ (kc K') (.array 8 134) lk.out ?_ ?_ ?_ ?_); rfl; rfl; rfl; kernel_rfl; rfl; (rw [known_info, kc_length]))
         refine (ways_any w9 g gc ga n n n (.slice mA nm cm) (.slice lA L lc) cA lA c C1 N k K' l (loopsV l) hlt HN64.out HN.out HRI.out (fun h1 h2 => by rw [HN.out]; exact PL.out.1 h1 h2) (fun h1 h2 => by rw [HN.out]; exact PL.out.2.1 h1 h2) CR1.out KR.out E9.out J9.out).mono ?_
         rintro e wz ⟨rfl, jz, tz⟩
         have JZ := Lib.hid jz
         have TZ := Lib.hid (JTch.trans T9.out tz)
         have RZ := Lib.hid (ways_right (i := l.getD k ins0) (p := k) (N := N) CR1.out KR.out)
         clear jz tz J9 E9 T9 lk O9
         go_wp2_with fail
         go_roundw
         case rel => exact ⟨k + 1, (waysC (l.getD k ins0) K' k C1 N), (waysN (l.getD k ins0) K' k N), Nat.succ_le_of_lt hlt, by first | exact congrArg (Value.int .i64) (g4.trans (by push_cast; rfl)) | go_num, HV5.out, JZ.out, TZ.out, RZ.out⟩
         case measure => first | exact Op.meas_lt hlt | (rw [g4]; exact Op.meas_lt hlt)
       have HV5 := Lib.hid (show (((k : Int), e') : Int × Int) = V from by rw [← HV4.out, HST.out]; simp only [if_true]; rw [if_neg h0])
       have h0i : (e' != 0) = true := by simpa using h0
       clear HST HV4 h0
       go_wp2_with fail
       exact bodyPost_ret (v := .tuple #[.pointer none, .int .i64 (k : Int), .int .i64 e']) (by simp [results, Tryz.results29, go_sem]) rfl ⟨⟨_, by rw [← HV5.out] <;> first | done | rfl⟩, jtch_below T9.out B6.out B6.out.size HGC.out HGA.out⟩
     have g1 : ¬ (k : Int) < (n : Int) := by omega
     have HV5 := Lib.hid (show ((0, 0) : Int × Int) = V from by rw [← HV4.out, show n - k = 0 by omega]; rfl)
     clear HV4
     go_wp2_with fail
     exact bodyPost_ret (v := .tuple #[.pointer (some ⟨g, 0, none⟩), .int .i64 0, .int .i64 0]) (by simp [results, Tryz.results29, go_sem]) rfl ⟨⟨_, by rw [← HV5.out] <;> first | done | rfl⟩, jtch_below TW.out B6.out B6.out.size HGC.out HGA.out⟩
 have HV3 := Lib.hid (show ((kp, ke) : Int × Int) = V from by rw [← HV2.out, if_neg (by rw [hke]; exact h0), ← hkp, ← hke])
 have h0i : (ke != 0) = true := by simpa using h0
 clear hkp hke HV2 h0
 go_wp2_with fail
 exact bodyPost_ret (v := .tuple #[.pointer none, .int .i64 kp, .int .i64 ke]) (by simp [results, Tryz.results29, go_sem]) rfl ⟨⟨_, by rw [← HV3.out] <;> first | done | rfl⟩, B2.out⟩

theorem Judge_any (w : World) (l : List InstV) (ms : List Int) (mA cA : Option Addr) (nm cm n c : Nat) (hn : n = l.length) (hnc : n ≤ c) (hnm : nm = ms.length) (hmc : nm ≤ cm) (hmm : nm ≤ 140737488351232)
 (hf : Frm w) (ht : Sg.Tab w) (hs : Sl w cA (inss l)) (hm : Sl w mA (ints ms)) :
 Calls Tryz.prog 11 #[.agg #[.slice mA nm cm, .slice cA n c]] w fun e w' => e = .returned (.tuple #[.int .i64 (judV ms l).1, .int .i64 (judV ms l).2]) ∧ Below w.heap.size w w' := by
 have HJ := Lib.hid (fun w hf ht hs hm => judged_any w l ms mA cA nm cm n c hn hnc hnm hmc hmm hf ht hs hm)
 obtain ⟨⟨p, e0⟩, hV⟩ : ∃ V, judV ms l = V := ⟨_, rfl⟩
 rw [hV] at HJ ⊢
 have HF := Lib.hid hf
 have HT := Lib.hid ht
 have HS := Lib.hid hs
 have HM := Lib.hid hm
 have B0 := Lib.hid (Below.refl w.heap.size w)
 clear hn hnc hnm hmc hmm hf ht hs hm hV
 dsimp only at HJ
 go_enter Tryz.func11, Tryz.ntmps11
 go_upto_region 1 with fail
 have O1 := Lib.hid (Ob.fresh w 25 [.slice mA nm cm, .slice cA n c])
 have B1 := Lib.hid (below_alloc (B0.out) (.cells #[.slice mA nm cm, .slice cA n c] 25))
 have Hq1 := Lib.hid (show w.heap.size ≤ w.heap.size by have := B0.out.size; omega)
 clear B0
 generalize (w.alloc (.cells #[.slice mA nm cm, .slice cA n c] 25)) = w1 at O1 B1 ⊢
 obtain ⟨q1, hq1⟩ : ∃ q1, w.heap.size = q1 := ⟨_, rfl⟩
 have Hq1 := Lib.hid (Nat.le_of_eq hq1)
 rw [hq1] at O1 ⊢
 clear hq1
 have m0 := O1.out.c0
 have m1 := O1.out.c1
 go_wp2_with fail
 refine (HJ.out w1 (HF.out.below B1.out) (HT.out.below B1.out) (HS.out.below B1.out) (HM.out.below B1.out)).mono ?_
 rintro e w2 ⟨⟨pv, rfl⟩, b2⟩
 have B2 := Lib.hid (B1.out.trans (b2.mono B1.out.size))
 clear b2 B1 O1 m0 m1 HJ
 go_wp2_with fail
 exact bodyPost_ret (v := .tuple #[.int .i64 p, .int .i64 e0]) (by simp [results, Tryz.results11, go_sem]) rfl ⟨rfl, B2.out⟩

end Go.Proofs.YtikkmkomlajnfaaGreatDoor.Jd
end
