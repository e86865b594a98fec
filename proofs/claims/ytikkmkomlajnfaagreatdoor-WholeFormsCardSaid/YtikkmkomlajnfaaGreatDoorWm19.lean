/-
  Layer 9: the judge's object: what has come to each place. Conditions: those of each theorem.
  Layer 9: come. Conditions: those of each theorem.
-/
import Derived.Test.YtikkmkomlajnfaaGreatDoorWm18
import Derived.Deep.MidRow
import Derived.Test.YtikkmkomlajnfaaGreatDoorWm01
import Derived.Test.YtikkmkomlajnfaaGreatDoorWm02
set_option linter.unusedVariables false
set_option linter.unusedSimpArgs false
section
namespace Go.Proofs.YtikkmkomlajnfaaGreatDoor.Jd
open Go.RowKit
open Go.Proofs.YtikkmkomlajnfaaGreatDoor.Op (InstV insc insVal inss ins0 rightV right_is Frm goesV writesV sourceV LoopV lpc lps lp0)

/-- a list as a map over its places -/
def rg (m : Nat) (f : Nat → Value) : List Value := (List.range m).map f
theorem rg_length (m : Nat) (f : Nat → Value) : (rg m f).length = m := by simp [rg]
theorem rg_get (m : Nat) (f : Nat → Value) {i : Nat} (h : i < m) : (rg m f)[i]? = some (f i) := by simp [rg, h]
theorem rg_set (m : Nat) (f : Nat → Value) (i : Nat) (v : Value) : (rg m f).set i v = rg m (fun x => if x = i then v else f x) := by
 apply List.ext_getElem?
 intro x
 rw [List.getElem?_set]
 by_cases hx : x < m
 · by_cases e : i = x
   · subst e
     rw [if_pos rfl, rg_length, if_pos hx, rg_get m _ hx, if_pos rfl]
   rw [if_neg e, rg_get m _ hx, rg_get m _ hx, if_neg (fun h => e h.symm)]
 have h1 : (rg m f)[x]? = none := List.getElem?_eq_none (by rw [rg_length]; omega)
 have h2 : (rg m (fun y => if y = i then v else f y))[x]? = none := List.getElem?_eq_none (by rw [rg_length]; omega)
 rw [h1, h2, rg_length]
 split
 · split
   · omega
   rfl
 rfl
theorem rg_ext {m : Nat} {f f' : Nat → Value} (h : ∀ x, x < m → f x = f' x) : rg m f = rg m f' := by
 unfold rg
 exact List.map_congr_left fun x hx => h x (List.mem_range.1 hx)
def putL (cs : List Value) : Nat → List Value → List Value
 | _, [] => cs
 | o, v :: r => putL (cs.set o v) (o + 1) r
theorem putL_rg (m : Nat) : ∀ (vs : List Value) (f : Nat → Value) (o : Nat), putL (rg m f) o vs = rg m (fun x => if o ≤ x ∧ x < o + vs.length then vs.getD (x - o) undef else f x)
 | [], f, o => by
   rw [putL]
   apply rg_ext
   intro x _
   rw [if_neg (by simp)]
 | v :: r, f, o => by
   rw [putL, rg_set, putL_rg m r]
   apply rg_ext
   intro x _
   by_cases e : x = o
   · subst e
     rw [if_neg (by omega), if_pos rfl, if_pos (by simp)]
     simp
   by_cases h : o + 1 ≤ x ∧ x < o + 1 + r.length
   · rw [if_pos h, if_pos (by simp only [List.length_cons]; omega)]
     rw [show x - o = (x - (o + 1)) + 1 by omega]
     rfl
   rw [if_neg h, if_neg e, if_neg (by simp only [List.length_cons]; omega)]
theorem ob_putL {g : Nat} {t : TypeId} : ∀ (vs : List Value) (o : Nat) {w : World} {cs : List Value}, Ob w g t cs → Ob (w.setCells g o vs) g t (putL cs o vs)
 | [], _, _, _, h => h
 | v :: r, o, _, _, h => ob_putL r (o + 1) (h.set_ o v)
theorem ob_farL {g g' : Nat} (hne : g' ≠ g) {t : TypeId} {cs : List Value} : ∀ (vs : List Value) (o : Nat) {w : World}, Ob w g' t cs → Ob (w.setCells g o vs) g' t cs
 | [], _, _, h => h
 | v :: r, o, _, h => ob_farL hne r (o + 1) (h.far (p := ⟨g, o, none⟩) hne v)

/-- the cells of a register -/
def jcell (t : JT) (j : Nat) : Value := if j = 0 then .int .i64 t.k else if j = 1 then .int .u64 (uv t.lo) else if j = 2 then .int .u64 (uv t.hi) else .int .i64 t.m
def ccell (C : Nat → Nat → JT) (x : Nat) : Value := jcell (C (x / 32) (x % 32 / 4)) (x % 4)
def cams (n : Nat) (C : Nat → Nat → JT) : List Value := rg (n * 32) (ccell C)
theorem kc_rg (K : Nat → JT) : kc K = rg 32 (fun x => jcell (K (x / 4)) (x % 4)) := rfl
theorem cams_get {n p r j : Nat} (C : Nat → Nat → JT) (hp : p < n) (hr : r < 8) (hj : j < 4) : (cams n C)[p * 32 + r * 4 + j]? = some (jcell (C p r) j) := by
 unfold cams
 rw [rg_get _ _ (by omega)]
 unfold ccell
 rw [show (p * 32 + r * 4 + j) / 32 = p by omega, show (p * 32 + r * 4 + j) % 32 / 4 = r by omega, show (p * 32 + r * 4 + j) % 4 = j by omega]
theorem cams_row {n p : Nat} (C : Nat → Nat → JT) (hp : p < n) {x : Nat} (hx : x < 32) : (cams n C)[p * 32 + x]? = (kc (C p))[x]? := by
 rw [kc_rg, rg_get _ _ hx]
 unfold cams
 rw [rg_get _ _ (by omega)]
 unfold ccell
 rw [show (p * 32 + x) / 32 = p by omega, show (p * 32 + x) % 32 / 4 = x / 4 by omega, show (p * 32 + x) % 4 = x % 4 by omega]
/-- what is known, turned at p -/
def updC (C : Nat → Nat → JT) (p : Nat) (K : Nat → JT) : Nat → Nat → JT := fun i => if i = p then K else C i
def updN (N : Nat → Bool) (p : Nat) : Nat → Bool := fun i => if i = p then true else N i
theorem cams_set4 {n p r : Nat} (C : Nat → Nat → JT) (hr : r < 8) (t : JT) :
 ((((cams n C).set (p * 32 + r * 4) (.int .i64 t.k)).set (p * 32 + r * 4 + 1) (.int .u64 (uv t.lo))).set (p * 32 + r * 4 + 2) (.int .u64 (uv t.hi))).set (p * 32 + r * 4 + 3) (.int .i64 t.m) = cams n (updC C p (updT (C p) r t)) := by
 unfold cams
 rw [rg_set, rg_set, rg_set, rg_set]
 apply rg_ext
 intro x _
 unfold ccell updC updT
 by_cases h3 : x = p * 32 + r * 4 + 3
 · rw [if_pos h3, if_pos (by omega), if_pos (by omega), show x % 4 = 3 by omega]; rfl
 rw [if_neg h3]
 by_cases h2 : x = p * 32 + r * 4 + 2
 · rw [if_pos h2, if_pos (by omega), if_pos (by omega), show x % 4 = 2 by omega]; rfl
 rw [if_neg h2]
 by_cases h1 : x = p * 32 + r * 4 + 1
 · rw [if_pos h1, if_pos (by omega), if_pos (by omega), show x % 4 = 1 by omega]; rfl
 rw [if_neg h1]
 by_cases h0 : x = p * 32 + r * 4
 · rw [if_pos h0, if_pos (by omega), if_pos (by omega), show x % 4 = 0 by omega]; rfl
 rw [if_neg h0]
 by_cases hp : x / 32 = p
 · rw [if_pos hp, if_neg (by omega), hp]
 rw [if_neg hp]
theorem cams_putL {n p : Nat} (C : Nat → Nat → JT) (K : Nat → JT) : putL (cams n C) (p * 32) (kc K) = cams n (updC C p K) := by
 unfold cams
 rw [putL_rg]
 apply rg_ext
 intro x _
 rw [kc_length]
 unfold ccell updC
 by_cases h : p * 32 ≤ x ∧ x < p * 32 + 32
 · rw [if_pos h, if_pos (show x / 32 = p by omega), kc_rg, List.getD_eq_getElem?_getD, rg_get _ _ (by omega)]
   rw [show (x - p * 32) / 4 = x % 32 / 4 by omega, show (x - p * 32) % 4 = x % 4 by omega]
   rfl
 rw [if_neg h, if_neg (show ¬ x / 32 = p by omega)]
theorem cams_ext {n : Nat} {C C' : Nat → Nat → JT} (h : ∀ p, p < n → ∀ r, r < 8 → C p r = C' p r) : cams n C = cams n C' := by
 unfold cams
 apply rg_ext
 intro x hx
 unfold ccell
 rw [h (x / 32) (by omega) (x % 32 / 4) (by omega)]
def bls (n : Nat) (N : Nat → Bool) : List Value := rg n fun x => .bool (N x)
theorem bls_get {n p : Nat} (N : Nat → Bool) (hp : p < n) : (bls n N)[p]? = some (.bool (N p)) := rg_get _ _ hp
theorem bls_set {n p : Nat} (N : Nat → Bool) : (bls n N).set p (.bool true) = bls n (updN N p) := by
 unfold bls
 rw [rg_set]
 apply rg_ext
 intro x _
 unfold updN
 by_cases h : x = p
 · rw [if_pos h, if_pos h]
 rw [if_neg h, if_neg h]

/-- the judge's object -/
structure JAt (w : World) (g gc ga n nc na : Nat) (mV cV lV : Value) (C : Nat → Nat → JT) (N : Nat → Bool) : Prop where
 o : Ob w g 126 [mV, cV, .slice (some ⟨gc, 0, none⟩) n nc, .slice (some ⟨ga, 0, none⟩) n na, lV]
 c : Ob w gc 136 (cams n C)
 a : Ob w ga 4 (bls n N)
 hc : n ≤ nc
 ha : n ≤ na
section
variable {w w' : World} {g gc ga n nc na : Nat} {mV cV lV : Value} {C : Nat → Nat → JT} {N : Nat → Bool}
theorem JAt.ngc (h : JAt w g gc ga n nc na mV cV lV C N) : g ≠ gc := h.o.ne_ h.c (by decide)
theorem JAt.nga (h : JAt w g gc ga n nc na mV cV lV C N) : g ≠ ga := h.o.ne_ h.a (by decide)
theorem JAt.nca (h : JAt w g gc ga n nc na mV cV lV C N) : gc ≠ ga := h.c.ne_ h.a (by decide)
theorem JAt.below (h : JAt w g gc ga n nc na mV cV lV C N) (hb : Below w.heap.size w w') : JAt w' g gc ga n nc na mV cV lV C N :=
 ⟨h.o.below hb h.o.lt, h.c.below hb h.c.lt, h.a.below hb h.a.lt, h.hc, h.ha⟩
theorem JAt.alloc (h : JAt w g gc ga n nc na mV cV lV C N) (ob : Obj) : JAt (w.alloc ob) g gc ga n nc na mV cV lV C N :=
 ⟨h.o.alloc ob, h.c.alloc ob, h.a.alloc ob, h.hc, h.ha⟩
theorem JAt.drewN (h : JAt w g gc ga n nc na mV cV lV C N) (k : Nat) : JAt (w.drewN k) g gc ga n nc na mV cV lV C N :=
 ⟨h.o.drewN k, h.c.drewN k, h.a.drewN k, h.hc, h.ha⟩
theorem JAt.set4 (h : JAt w g gc ga n nc na mV cV lV C N) {p r : Nat} (hr : r < 8) (t : JT) :
 JAt ((((w.setCell ⟨gc, p * 32 + r * 4, none⟩ (.int .i64 t.k)).setCell ⟨gc, p * 32 + r * 4 + 1, none⟩ (.int .u64 (uv t.lo))).setCell ⟨gc, p * 32 + r * 4 + 2, none⟩ (.int .u64 (uv t.hi))).setCell ⟨gc, p * 32 + r * 4 + 3, none⟩ (.int .i64 t.m)) g gc ga n nc na mV cV lV (updC C p (updT (C p) r t)) N :=
 ⟨(((h.o.far (p := ⟨gc, _, none⟩) h.ngc _).far (p := ⟨gc, _, none⟩) h.ngc _).far (p := ⟨gc, _, none⟩) h.ngc _).far (p := ⟨gc, _, none⟩) h.ngc _,
  by rw [← cams_set4 C hr t]; exact (((h.c.set_ _ _).set_ _ _).set_ _ _).set_ _ _,
  (((h.a.far (p := ⟨gc, _, none⟩) h.nca.symm _).far (p := ⟨gc, _, none⟩) h.nca.symm _).far (p := ⟨gc, _, none⟩) h.nca.symm _).far (p := ⟨gc, _, none⟩) h.nca.symm _, h.hc, h.ha⟩
theorem JAt.setC (h : JAt w g gc ga n nc na mV cV lV C N) (p : Nat) (K : Nat → JT) : JAt (w.setCells gc (p * 32) (kc K)) g gc ga n nc na mV cV lV (updC C p K) N :=
 ⟨ob_farL h.ngc _ _ h.o, by rw [← cams_putL C K]; exact ob_putL _ _ h.c, ob_farL h.nca.symm _ _ h.a, h.hc, h.ha⟩
theorem JAt.setN (h : JAt w g gc ga n nc na mV cV lV C N) (p : Nat) : JAt (w.setCell ⟨ga, p, none⟩ (.bool true)) g gc ga n nc na mV cV lV C (updN N p) :=
 ⟨h.o.far (p := ⟨ga, _, none⟩) h.nga _, h.c.far (p := ⟨ga, _, none⟩) h.nca _, by rw [← bls_set N]; exact h.a.set_ _ _, h.hc, h.ha⟩
theorem JAt.row (h : JAt w g gc ga n nc na mV cV lV C N) {p : Nat} (hp : p < n) : w.rangeAt gc (p * 32) (kc (C p)) := fun j v hv => by
 have hj : j < 32 := by have := (List.getElem?_eq_some_iff.1 hv).1; rw [kc_length] at this; exact this
 rw [h.c.cell, cams_row C hp hj, hv]
theorem JAt.there (h : JAt w g gc ga n nc na mV cV lV C N) {p : Nat} (hp : p < n) : w.there gc (p * 32) 32 := fun j hj =>
 ⟨by rw [h.c.cell, cams_row C hp hj, kc_rg, rg_get _ _ hj]; rfl, h.c.frozen _⟩
theorem JAt.reg (h : JAt w g gc ga n nc na mV cV lV C N) {p r : Nat} (hp : p < n) (hr : r < 8) :
 w.cell? ⟨gc, p * 32 + r * 4, none⟩ = some (.int .i64 (C p r).k) ∧ w.cell? ⟨gc, p * 32 + r * 4 + 1, none⟩ = some (.int .u64 (uv (C p r).lo)) ∧
  w.cell? ⟨gc, p * 32 + r * 4 + 2, none⟩ = some (.int .u64 (uv (C p r).hi)) ∧ w.cell? ⟨gc, p * 32 + r * 4 + 3, none⟩ = some (.int .i64 (C p r).m) := by
 have e0 := (h.c.cell (p * 32 + r * 4 + 0)).trans (cams_get (j := 0) C hp hr (by omega))
 have e1 := (h.c.cell (p * 32 + r * 4 + 1)).trans (cams_get (j := 1) C hp hr (by omega))
 have e2 := (h.c.cell (p * 32 + r * 4 + 2)).trans (cams_get (j := 2) C hp hr (by omega))
 have e3 := (h.c.cell (p * 32 + r * 4 + 3)).trans (cams_get (j := 3) C hp hr (by omega))
 rw [Nat.add_zero] at e0
 exact ⟨e0, e1, e2, e3⟩
theorem JAt.ext {C' : Nat → Nat → JT} (h : JAt w g gc ga n nc na mV cV lV C N) (he : ∀ p, p < n → ∀ r, r < 8 → C p r = C' p r) : JAt w g gc ga n nc na mV cV lV C' N :=
 ⟨h.o, by rw [← cams_ext he]; exact h.c, h.a, h.hc, h.ha⟩
end
/-- only these two blocks may have turned -/
def JTch (w w' : World) (gc ga : Nat) : Prop := Tch (fun i => i = gc ∨ i = ga) w w'
theorem keepS {w w' : World} (hb : Below w.heap.size w w') {p : Addr} {v : Value} (h : w.cell? p = some v) : w'.cell? p = some v := (hb.cell (cell_lt h)).trans h

end Go.Proofs.YtikkmkomlajnfaaGreatDoor.Jd
end

section
namespace Go.Proofs.YtikkmkomlajnfaaGreatDoor.Jd
set_option maxRecDepth 100000
set_option maxHeartbeats 4000000
open Go.RowKit

theorem tch_setCells {S : Nat → Prop} {a : World} {g : Nat} (hg : S g) : ∀ (vs : List Value) (o : Nat) {b : World}, Tch S a b → Tch S a (b.setCells g o vs)
 | [], _, _, h => h
 | v :: r, o, _, h => tch_setCells hg r (o + 1) (h.setCell (p := ⟨g, o, none⟩) hg v)
/-- k comes to the place p -/
def comC (C : Nat → Nat → JT) (N : Nat → Bool) (p : Nat) (K : Nat → JT) : Nat → Nat → JT :=
 if N p = true then updC C p (fun r => jnT (C p r) (K r)) else updC C p K
theorem known_info : (Tryz.prog.info? 136).map (·.size) = some 32 := by kernel_rfl

theorem come_any (w : World) (g gc ga n nc na : Nat) (mV cV lV : Value) (C : Nat → Nat → JT) (N : Nat → Bool) (p : Nat) (K : Nat → JT) (hp : p < n) (hm : n ≤ 64)
 (hR : ∀ p r, JR (C p r)) (hK : ∀ r, JR (K r)) (hj : JAt w g gc ga n nc na mV cV lV C N) :
 Calls Tryz.prog 92 #[.pointer (some ⟨g, 0, none⟩), .int .i64 p, kVal K] w fun e w' => e = .returned (.tuple #[]) ∧ JAt w' g gc ga n nc na mV cV lV (comC C N p K) (updN N p) ∧ JTch w w' gc ga := by
 have HJ := Lib.hid hj
 have HP := Lib.hid hp
 have HGC := Lib.hid hj.c.lt
 have g1 : (p : Int) < (n : Int) := by omega
 have g2 : (0 : Int) ≤ (p : Int) := by omega
 have j1 : w.cell? ⟨g, 3, none⟩ = some (.slice (some ⟨ga, 0, none⟩) n na) := hj.o.cell 3
 have j2 : w.cell? ⟨ga, p, none⟩ = some (.bool (N p)) := (hj.a.cell p).trans (bls_get N hp)
 unfold kVal
 have B0 := Lib.hid (Below.refl w.heap.size w)
 clear hj hp
 go_enter Tryz.func92, Tryz.ntmps92
 go_upto_region 1 with fail
 clear j1 j2
 have O1 := Lib.hid (Ob.fresh w 136 (kc K))
 have J2 := Lib.hid ((HJ.out).alloc (.cells (kc K).toArray 136))
 have B1 := Lib.hid (below_alloc (B0.out) (.cells (kc K).toArray 136))
 have Hq1 := Lib.hid (show w.heap.size ≤ w.heap.size by have := B0.out.size; omega)
 clear B0 HJ
 generalize (w.alloc (.cells (kc K).toArray 136)) = w2 at O1 J2 B1 ⊢
 obtain ⟨q1, hq1⟩ : ∃ q1, w.heap.size = q1 := ⟨_, rfl⟩
 have Hq1 := Lib.hid (Nat.le_of_eq hq1)
 rw [hq1] at O1 ⊢
 clear hq1
 have j1 : w2.cell? ⟨g, 3, none⟩ = some (.slice (some ⟨ga, 0, none⟩) n na) := J2.out.o.cell 3
 have j2 : w2.cell? ⟨ga, p, none⟩ = some (.bool (N p)) := (J2.out.a.cell p).trans (bls_get N HP.out)
 have j3 : w2.cell? ⟨g, 2, none⟩ = some (.slice (some ⟨gc, 0, none⟩) n nc) := J2.out.o.cell 2
 have fz : w2.frozen? ⟨ga, p, none⟩ = false := J2.out.a.frozen p
 obtain ⟨P, hP⟩ : ∃ P, N p = P := ⟨_, rfl⟩
 rw [hP] at j2
 cases P
 · have HST : ∀ w' : World, w'.there gc (p * 32) 32 → (Instr.storeAt 136 (.pointer (some ⟨gc, p * 32, none⟩)) (.agg (kc K).toArray)).run Tryz.prog w' = .ok () (w'.setCells gc (p * 32) (kc K)) := fun w' ht =>
    run_storeAt_mid w' gc (p * 32) 136 (kc K).toArray (by simpa [kc_length] using ht) (by rw [known_info]; simp [kc_length]) (all_oneCell_toArray (kc_one K))
   have HLD : ∀ w' : World, w'.rangeAt q1 0 (kc K) → (Instr.loadAt 136 (.pointer (some ⟨q1, 0, none⟩))).run Tryz.prog w' = .ok (.agg (kc K).toArray) w' := fun w' hr =>
    run_loadAt_mid w' q1 0 136 (kc K) (.array 8 134) hr (by kernel_rfl) rfl (by rw [known_info, kc_length])
   have HRW : w2.rangeAt q1 0 (kc K) := fun j v hv => by rw [Nat.zero_add, O1.out.cell, hv]
   have HTH : w2.there gc (p * 32) 32 := J2.out.there HP.out
   go_upto_region 2 with fail
   refine wp_region_held_drew (S := fun w' => w'.cell? ⟨g, 3, none⟩ = some (.slice (some ⟨ga, 0, none⟩) n na) ∧ w'.cell? ⟨g, 2, none⟩ = some (.slice (some ⟨gc, 0, none⟩) n nc) ∧ w'.rangeAt q1 0 (kc K)) (by kernel_rfl) ⟨j1, j3, HRW⟩ (fun hHeld => ?_)
   have J3 := Lib.hid (J2.out.drewN 1)
   have O3 := Lib.hid (O1.out.drewN 1)
   have B3 := Lib.hid (below_drewN B1.out 1)
   have fz3 : (w2.drewN 1).frozen? ⟨ga, p, none⟩ = false := J3.out.a.frozen p
   have y2 : (w2.drewN 1).cell? ⟨ga, p, none⟩ = some (.bool false) := j2
   obtain ⟨w3, hw3⟩ : ∃ w3, w2.drewN 1 = w3 := ⟨_, rfl⟩
   rw [hw3] at J3 O3 B3 fz3 y2
   rw [show w2.drew = w3 from hw3]
   try rw [show w2.drew = w3 from hw3] at hHeld
   clear hw3 fz j1 j2 j3
   have HRW' : (w3.setCell ⟨ga, p, none⟩ (.bool true)).rangeAt q1 0 (kc K) := fun j v hv => by rw [Nat.zero_add]; exact ((O3.out.far (p := ⟨ga, p, none⟩) (O3.out.ne_ J3.out.a (by decide)) _).cell j).trans hv
   have HRW'' : ((w3.setCell ⟨ga, p, none⟩ (.bool true)).setCells gc (p * 32) (kc K)).rangeAt q1 0 (kc K) := World.rangeAt_setCells_apart HRW' gc (p * 32) (kc K) (Or.inl (by have := HGC.out; have := Hq1.out; omega))
   refine tkq 0 15 rfl (by kernel_rfl) (by rfl) hHeld (fun _ _ _ h => h) (by intro w' hSw; go_simp; try with_reducible rfl) ?_
   simp only [Act.put, spa, spb, spc]
   refine tkq 1 16 rfl (by kernel_rfl) (by rfl) hHeld (fun _ _ _ h => h) (by intro w' hSw; go_simp; try with_reducible rfl) ?_
   simp only [Act.put, spa, spb, spc]
   refine tkq 2 17 rfl (by kernel_rfl) (by rfl) hHeld (fun _ _ _ h => h) (by intro w' hSw; go_simp; try with_reducible rfl) ?_
   simp only [Act.put, spa, spb, spc]
   refine tkq 3 18 rfl (by kernel_rfl) (by rfl) hHeld (fun _ _ _ h => h) (by intro w' hSw; go_simp; try with_reducible rfl) ?_
   simp only [Act.put, spa, spb, spc]
   refine tkq 4 19 rfl (by kernel_rfl) (by rfl) hHeld (fun _ _ _ h => h) (by intro w' hSw; go_simp; try with_reducible rfl) ?_
   simp only [Act.put, spa, spb, spc]
   refine tkq 5 20 rfl (by kernel_rfl) (by rfl) hHeld (fun _ _ _ h => h) (by intro w' hSw; go_simp; try with_reducible rfl) ?_
   simp only [Act.put, spa, spb, spc]
   refine tkq 6 21 rfl (by kernel_rfl) (by rfl) hHeld (fun _ _ _ h => h) (by intro w' hSw; go_simp; try with_reducible rfl) ?_
   simp only [Act.put, spa, spb, spc]
   refine tkq 7 22 rfl (by kernel_rfl) (by rfl) hHeld (fun _ _ _ h => h) (by intro w' hSw; go_simp; try with_reducible rfl) ?_
   simp only [Act.put, spa, spb, spc]
   refine tkq 8 23 rfl (by kernel_rfl) (by rfl) hHeld (fun _ _ _ h => h) (by intro w' hSw; go_simp; try with_reducible rfl) ?_
   simp only [Act.put, spa, spb, spc]
   refine tkq 11 26 rfl (by kernel_rfl) (by rfl) hHeld (fun _ _ _ h => h) (by intro w' hSw; go_simp; try with_reducible rfl) ?_
   simp only [Act.put, spa, spb, spc]
   refine tkq 9 24 rfl (by kernel_rfl) (by rfl) hHeld (fun _ _ _ h => h) (by intro w' hSw; go_simp; try with_reducible rfl) ?_
   simp only [Act.put, spa, spb, spc]
   refine wpAnyH_take (i := 10) (oi := ⟨some 25, .load 136 (.tmp 5), _, _, _, none⟩) (v := .agg (kc K).toArray) rfl (by kernel_rfl) (by kernel_rfl) (by kernel_rfl) (fun _ _ _ h => h) (yieldsIf_load_mid (by rfl) 136 (.tmp 5) rfl q1 (0) rfl (kc K) (.array 8 134) (fun w' h => h.2.2) (by kernel_rfl) rfl (by rw [known_info, kc_length])) (by assumption) ?_
   simp only [Act.put, spa, spb, spc]
   refine wpAnyH_ready (rs := [12]) (by kernel_rfl) (by simp) ?_
   refine AllReadyH.cons rfl (fun K' hK => ?_) AllReadyH.nil
   go_simp
   refine hK.out _ _ ⟨(J3.out.setN p).o.cell 3, (J3.out.setN p).o.cell 2, HRW'⟩ (fun hHeld => ?_)
   clear hK K'
   refine tkq 13 27 rfl (by kernel_rfl) (by rfl) hHeld (fun _ _ _ h => h) (by intro w' hSw; go_simp; try with_reducible rfl) ?_
   simp only [Act.put, spa, spb, spc]
   refine wpAnyH_ready (rs := [14]) (by kernel_rfl) (by simp) ?_
   refine AllReadyH.cons (o := ⟨none, .store 136 (.tmp 27) (.tmp 25), _, _, _, none⟩) rfl (fun K' hK => ?_) AllReadyH.nil
   rw [if_pos (by rfl)]
   refine wp_store_mid 136 (.tmp 27) (.tmp 25) rfl gc (p * 32) (kc K).toArray rfl rfl (by simpa [kc_length] using (J3.out.setN p).there HP.out) (by rw [known_info]; simp [kc_length]) (all_oneCell_toArray (kc_one K)) ?_
   change K' _ (World.setCells _ gc (p * 32) (kc K))
   refine hK.out _ _ ⟨((J3.out.setN p).setC p K).o.cell 3, ((J3.out.setN p).setC p K).o.cell 2, HRW''⟩ (fun hHeld => ?_)
   clear hK K'
   simp only [Act.put]
   refine wpAnyH_done (by kernel_rfl) ?_ _
   go_wp2_with fail
   have HF := Lib.hid ((J3.out.setN p).setC p K)
   have HF2 := Lib.hid (tch_setCells (S := fun i => i = gc ∨ i = ga) (Or.inl rfl) (kc K) (p * 32) ((Tch.of_below B3.out).setCell (p := ⟨ga, p, none⟩) (Or.inr rfl) (.bool true)))
   have HCO := Lib.hid (show comC C N p K = updC C p K from if_neg (by rw [hP]; decide))
   exact bodyPost_ret (v := .tuple #[]) (by simp [results, Tryz.results92, go_sem]) rfl ⟨rfl, by rw [HCO.out]; exact HF.out, HF2.out⟩
 have HCO := Lib.hid (show comC C N p K = updC C p (fun r => jnT (C p r) (K r)) from if_pos hP)
 have HNN := Lib.hid (show ∀ x, N x = updN N p x from fun x => by unfold updN; by_cases e : x = p <;> simp [e, hP])
 have HJN := Lib.hid (fun w r => joined_any w (C p r) (K r) (hR p r) (hK r))
 go_wp2_with fail
 have B2 := B1
 clear j1 j2 j3 fz hP B1
 have T2 := Lib.hid (Tch.of_below (S := fun i => i = gc ∨ i = ga) B2.out)
 go_loopw [28] (fun i wr => ∃ r : Nat, r ≤ 8 ∧ i = .int .i64 r ∧ JAt wr g gc ga n nc na mV cV lV (updC C p (fun r' => if r' < r then jnT (C p r') (K r') else C p r')) N ∧ Ob wr q1 136 (kc K) ∧ JTch w wr gc ga) (fun i _ => 8 - (intOf i).toNat)
 case atStart =>
  refine ⟨0, by omega, rfl, J2.out.ext (fun p' _ r' _ => ?_), O1.out, T2.out⟩
  unfold updC
  by_cases e : p' = p
  · rw [if_pos e, if_neg (by omega), e]
  rw [if_neg e]
 case round =>
  obtain ⟨r, hr, rfl, hj, ho, ht⟩ := hrel
  have JW := Lib.hid hj
  have OW := Lib.hid ho
  have TW := Lib.hid ht
  clear hj ho ht O1 J2 T2 B2
  by_cases hlt : r < 8
  · have g3 : (r : Int) < 8 := by omega
    have g4 : (0 : Int) ≤ (r : Int) := by omega
    have g5 : wrap64 ((r : Int) + 1) = (r : Int) + 1 := by unfold wrap64; omega
    have hg := kc_get K hlt
    have hc := JW.out.reg HP.out hlt
    rw [show updC C p (fun r' => if r' < r then jnT (C p r') (K r') else C p r') p r = C p r by unfold updC; rw [if_pos rfl, if_neg (by omega)]] at hc
    obtain ⟨c0, c1, c2, c3⟩ := hc
    have k0 : wr.cell? ⟨q1, r * 4, none⟩ = some (.int .i64 (K r).k) := (OW.out.cell _).trans hg.1
    have k1 : wr.cell? ⟨q1, r * 4 + 1, none⟩ = some (.int .u64 (uv (K r).lo)) := (OW.out.cell _).trans hg.2.1
    have k2 : wr.cell? ⟨q1, r * 4 + 2, none⟩ = some (.int .u64 (uv (K r).hi)) := (OW.out.cell _).trans hg.2.2.1
    have k3 : wr.cell? ⟨q1, r * 4 + 3, none⟩ = some (.int .i64 (K r).m) := (OW.out.cell _).trans hg.2.2.2
    have j3 : wr.cell? ⟨g, 2, none⟩ = some (.slice (some ⟨gc, 0, none⟩) n nc) := JW.out.o.cell 2
    have fz := JW.out.c.frozen
    have HJR := Lib.hid (fun w => HJN.out w r)
    have HKG := Lib.hid hg
    have hqg := Lib.hid (show q1 ≠ gc from fun e => by have := HGC.out; have := Hq1.out; omega)
    clear hg
    obtain ⟨t, ht⟩ : ∃ t, jnT (C p r) (K r) = t := ⟨_, rfl⟩
    have HTT := Lib.hid ht
    rw [ht] at HJR
    clear ht
    generalize C p r = tc at c0 c1 c2 c3 HJR
    obtain ⟨tk', htk⟩ : ∃ x, K r = x := ⟨_, rfl⟩
    rw [htk] at k0 k1 k2 k3 HJR HKG
    clear htk
    obtain ⟨ck, cl, ch, cm⟩ := tc
    obtain ⟨kk, kl, kh, km⟩ := tk'
    obtain ⟨tk, tl, th, tm⟩ := t
    unfold jVal at HJR
    dsimp only at c0 c1 c2 c3 k0 k1 k2 k3 HJR HKG
    go_upto_region 6 with fail
    refine wp_region_held_drew (S := fun w' => w'.cell? ⟨g, 2, none⟩ = some (.slice (some ⟨gc, 0, none⟩) n nc) ∧ (w'.cell? ⟨q1, r * 4, none⟩ = some (.int .i64 kk) ∧ w'.cell? ⟨q1, r * 4 + 1, none⟩ = some (.int .u64 (uv kl)) ∧ w'.cell? ⟨q1, r * 4 + 2, none⟩ = some (.int .u64 (uv kh)) ∧ w'.cell? ⟨q1, r * 4 + 3, none⟩ = some (.int .i64 km))) (by kernel_rfl) ⟨j3, ⟨k0, k1, k2, k3⟩⟩ (fun hHeld => ?_)
    refine tkq 0 31 rfl (by kernel_rfl) (by rfl) hHeld (fun _ _ _ h => h) (by intro w' hSw; go_simp; try with_reducible rfl) ?_
    simp only [Act.put, spa, spb, spc]
    refine tkq 1 32 rfl (by kernel_rfl) (by rfl) hHeld (fun _ _ _ h => h) (by intro w' hSw; go_simp; try with_reducible rfl) ?_
    simp only [Act.put, spa, spb, spc]
    refine tkq 2 33 rfl (by kernel_rfl) (by rfl) hHeld (fun _ _ _ h => h) (by intro w' hSw; go_simp; try with_reducible rfl) ?_
    simp only [Act.put, spa, spb, spc]
    refine tkq 3 34 rfl (by kernel_rfl) (by rfl) hHeld (fun _ _ _ h => h) (by intro w' hSw; go_simp; try with_reducible rfl) ?_
    simp only [Act.put, spa, spb, spc]
    refine tkq 4 35 rfl (by kernel_rfl) (by rfl) hHeld (fun _ _ _ h => h) (by intro w' hSw; go_simp; try with_reducible rfl) ?_
    simp only [Act.put, spa, spb, spc]
    refine tkq 5 36 rfl (by kernel_rfl) (by rfl) hHeld (fun _ _ _ h => h) (by intro w' hSw; go_simp; try with_reducible rfl) ?_
    simp only [Act.put, spa, spb, spc]
    refine tkq 6 37 rfl (by kernel_rfl) (by rfl) hHeld (fun _ _ _ h => h) (by intro w' hSw; go_simp; try with_reducible rfl) ?_
    simp only [Act.put, spa, spb, spc]
    refine tkq 7 38 rfl (by kernel_rfl) (by rfl) hHeld (fun _ _ _ h => h) (by intro w' hSw; go_simp; try with_reducible rfl) ?_
    simp only [Act.put, spa, spb, spc]
    refine tkq 8 39 rfl (by kernel_rfl) (by rfl) hHeld (fun _ _ _ h => h) (by intro w' hSw; go_simp; try with_reducible rfl) ?_
    simp only [Act.put, spa, spb, spc]
    refine tkq 9 40 rfl (by kernel_rfl) (by rfl) hHeld (fun _ _ _ h => h) (by intro w' hSw; go_simp; try with_reducible rfl) ?_
    simp only [Act.put, spa, spb, spc]
    refine tkq 10 41 rfl (by kernel_rfl) (by rfl) hHeld (fun _ _ _ h => h) (by intro w' hSw; go_simp; try with_reducible rfl) ?_
    simp only [Act.put, spa, spb, spc]
    refine tkq 11 42 rfl (by kernel_rfl) (by rfl) hHeld (fun _ _ _ h => h) (by intro w' hSw; go_simp; try with_reducible rfl) ?_
    simp only [Act.put, spa, spb, spc]
    refine tkq 12 43 rfl (by kernel_rfl) (by rfl) hHeld (fun _ _ _ h => h) (by intro w' hSw; go_simp; try with_reducible rfl) ?_
    simp only [Act.put, spa, spb, spc]
    refine tkq 13 44 rfl (by kernel_rfl) (by rfl) hHeld (fun _ _ _ h => h) (by intro w' hSw; go_simp; try with_reducible rfl) ?_
    simp only [Act.put, spa, spb, spc]
    refine tkq 15 46 rfl (by kernel_rfl) (by rfl) hHeld (fun _ _ _ h => h) (by intro w' hSw; go_simp; try with_reducible rfl) ?_
    simp only [Act.put, spa, spb, spc]
    refine tkq 16 47 rfl (by kernel_rfl) (by rfl) hHeld (fun _ _ _ h => h) (by intro w' hSw; go_simp; try with_reducible rfl) ?_
    simp only [Act.put, spa, spb, spc]
    refine tkq 17 48 rfl (by kernel_rfl) (by rfl) hHeld (fun _ _ _ h => h) (by intro w' hSw; go_simp; try with_reducible rfl) ?_
    simp only [Act.put, spa, spb, spc]
    refine tkq 19 50 rfl (by kernel_rfl) (by rfl) hHeld (fun _ _ _ h => h) (by intro w' hSw; go_simp; try with_reducible rfl) ?_
    simp only [Act.put, spa, spb, spc]
    refine rdq 14 ⟨some 45, _, _, _, _, _⟩ (by kernel_rfl) rfl (fun K' hK => ?_)
    go_simp
    refine hK.out _ _ ⟨j3, ⟨k0, k1, k2, k3⟩⟩ (fun hHeld => ?_)
    clear hK K'
    refine rdq 18 ⟨some 49, _, _, _, _, _⟩ (by kernel_rfl) rfl (fun K' hK => ?_)
    go_simp
    refine (HJR.out _).mono ?_
    rintro e wz ⟨rfl, bz⟩
    dsimp only
    refine hK.out _ _ ⟨keepS bz j3, ⟨keepS bz k0, keepS bz k1, keepS bz k2, keepS bz k3⟩⟩ (fun hHeld => ?_)
    clear hK K'
    refine tkq 20 51 rfl (by kernel_rfl) (by rfl) hHeld (fun _ _ _ h => h) (by intro w' hSw; go_simp; try with_reducible rfl) ?_
    simp only [Act.put, spa, spb, spc]
    have JZ := Lib.hid ((JW.out.drewN 1).below bz)
    have OZ := Lib.hid ((OW.out.drewN 1).below bz OW.out.lt)
    have TZ := Lib.hid ((TW.out.drewN 1).trans (Tch.of_below bz))
    have y3 := keepS bz j3
    have y0 := keepS bz c0
    have yc1 := keepS bz c1
    have yc2 := keepS bz c2
    have yc3 := keepS bz c3
    have fy := JZ.out.c.frozen
    clear bz hHeld j3 c0 c1 c2 c3 k0 k1 k2 k3 fz
    refine rdq 21 ⟨none, _, _, _, _, _⟩ (by kernel_rfl) rfl (fun K' hK => ?_)
    go_simp
    have HZ := Lib.hid (JZ.out.set4 (p := p) hlt ⟨tk, tl, th, tm⟩)
    have HZO := Lib.hid ((((OZ.out.far (p := ⟨gc, p * 32 + r * 4, none⟩) hqg.out (.int .i64 tk)).far (p := ⟨gc, p * 32 + r * 4 + 1, none⟩) hqg.out (.int .u64 (uv tl))).far (p := ⟨gc, p * 32 + r * 4 + 2, none⟩) hqg.out (.int .u64 (uv th))).far (p := ⟨gc, p * 32 + r * 4 + 3, none⟩) hqg.out (.int .i64 tm))
    have HZT := Lib.hid ((((TZ.out.setCell (p := ⟨gc, p * 32 + r * 4, none⟩) (Or.inl rfl) (.int .i64 tk)).setCell (p := ⟨gc, p * 32 + r * 4 + 1, none⟩) (Or.inl rfl) (.int .u64 (uv tl))).setCell (p := ⟨gc, p * 32 + r * 4 + 2, none⟩) (Or.inl rfl) (.int .u64 (uv th))).setCell (p := ⟨gc, p * 32 + r * 4 + 3, none⟩) (Or.inl rfl) (.int .i64 tm))
    dsimp only at HZ
    obtain ⟨k0, k1, k2, k3⟩ := HKG.out
    refine hK.out _ _ ⟨HZ.out.o.cell 2, ⟨(HZO.out.cell _).trans k0, (HZO.out.cell _).trans k1, (HZO.out.cell _).trans k2, (HZO.out.cell _).trans k3⟩⟩ (fun hHeld => ?_)
    clear hK K' k0 k1 k2 k3 hHeld y0 yc1 yc2 yc3 fy y3
    generalize (((wz.setCell ⟨gc, p * 32 + r * 4, none⟩ (.int .i64 tk)).setCell ⟨gc, p * 32 + r * 4 + 1, none⟩ (.int .u64 (uv tl))).setCell ⟨gc, p * 32 + r * 4 + 2, none⟩ (.int .u64 (uv th))).setCell ⟨gc, p * 32 + r * 4 + 3, none⟩ (.int .i64 tm) = wf at HZ HZO HZT ⊢
    clear JZ OZ TZ
    refine wpAnyH_done (by kernel_rfl) ?_ _
    go_wp2_with fail
    go_roundw
    case rel =>
     refine ⟨r + 1, Nat.succ_le_of_lt hlt, by first | exact congrArg (Value.int .i64) (g5.trans (by push_cast; rfl)) | go_num, HZ.out.ext (fun p' _ r' _ => ?_), HZO.out, HZT.out⟩
     unfold updC updT
     by_cases e : p' = p
     · rw [if_pos e, if_pos e, if_pos rfl]
       by_cases e2 : r' = r
       · rw [if_pos e2, if_pos (by omega), e2]; exact HTT.out.symm
       rw [if_neg e2]
       by_cases e3 : r' < r
       · rw [if_pos e3, if_pos (by omega)]
       rw [if_neg e3, if_neg (by omega)]
     rw [if_neg e, if_neg e, if_neg e]
    case measure => first | exact Op.meas_lt hlt | (rw [g5]; exact Op.meas_lt hlt)
  obtain rfl : r = 8 := by omega
  go_wp2_with fail
  go_end0
  have hx : ∀ p', p' < n → ∀ r', r' < 8 → updC C p (fun r' => if r' < 8 then jnT (C p r') (K r') else C p r') p' r' = comC C N p K p' r' := fun p' _ r' h8 => by
   rw [HCO.out]
   unfold updC
   by_cases e : p' = p
   · rw [if_pos e, if_pos e, if_pos h8]
   rw [if_neg e, if_neg e]
  have JE := JW.out.ext hx
  exact ⟨rfl, ⟨JE.o, JE.c, by rw [show bls n (updN N p) = bls n N from rg_ext fun x _ => by rw [HNN.out x]]; exact JE.a, JE.hc, JE.ha⟩, TW.out⟩

end Go.Proofs.YtikkmkomlajnfaaGreatDoor.Jd
end
