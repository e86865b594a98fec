/-
  The loops of a code that is right are nested, and its cost is the sum of how often its places are come to. Plain.
  What a register's type says of what it holds. Plain.
  What the judge finds out holds wherever a run comes to. Plain.
-/
import Derived.Test.YtikkmkomlajnfaaGreatDoorWm23
import Derived.Test.YtikkmkomlajnfaaGreatDoorWm05
import Derived.Test.YtikkmkomlajnfaaGreatDoorWm07
set_option linter.unusedVariables false
set_option linter.unusedSimpArgs false
section
namespace Go.Proofs.YtikkmkomlajnfaaGreatDoor.Lw
open Go.RowKit
open Go.Proofs.YtikkmkomlajnfaaGreatDoor.Op (InstV ins0 LoopV lp0 loopsV loopsT rightV right_is RightI goesV CheckI nbad jbad jbadM nestA nestB nestedV anyF anyF_false inL timesF costF costV mn)

/-- a loop, of plain numbers -/
def lpn (x : LoopV) : LpN := ⟨x.h.toNat, x.a.toNat, x.b.toNat⟩
def lpsN (l : List InstV) : List LpN := (loopsV l).map lpn

theorem nestB_ok {ls : List LoopV} {l : List InstV} : ∀ {f p : Nat}, (nestB ls l p f).2 = 0 → ∀ q, p ≤ q → q < p + f → ∀ j, j < ls.length → jbad ls l q j = false
 | 0, p, _, q, h1, h2, _, _ => absurd h2 (by omega)
 | f + 1, p, h, q, h1, h2, j, hj => by
   unfold nestB at h
   by_cases c : anyF (jbad ls l p) 0 ls.length = true
   · rw [if_pos c] at h; exact absurd (show (31 : Int) = 0 from h) (by decide)
   rw [if_neg c] at h
   by_cases e : q = p
   · subst e
     exact anyF_false (by simpa using c) j (Nat.zero_le _) (by omega)
   exact nestB_ok h q (by omega) (by omega) j hj
theorem nestA_ok {ls : List LoopV} {l : List InstV} : ∀ {f k : Nat}, (nestA ls l k f).2 = 0 → (∀ q, k ≤ q → q < k + f → ∀ j, j < q → nbad (ls.getD q lp0) ls j = false) ∧ (nestB ls l 0 l.length).2 = 0
 | 0, k, h => ⟨fun q h1 h2 => absurd h2 (by omega), h⟩
 | f + 1, k, h => by
   unfold nestA at h
   by_cases c : anyF (nbad (ls.getD k lp0) ls) 0 k = true
   · rw [if_pos c] at h; exact absurd (show (31 : Int) = 0 from h) (by decide)
   rw [if_neg c] at h
   obtain ⟨i1, i2⟩ := nestA_ok h
   refine ⟨fun q h1 h2 j hj => ?_, i2⟩
   by_cases e : q = k
   · subst e
     exact anyF_false (by simpa using c) j (Nat.zero_le _) (by omega)
   exact i1 q (by omega) (by omega) j hj
/-- of two loops the later is within the earlier, holds it, or is apart from it -/
def Nst (x m : LpN) : Prop := m.h ≤ x.a → m.h ≤ x.h
theorem lps_in {l : List InstV} (h : CheckI l) : ∀ x ∈ loopsV l, 0 ≤ x.h ∧ x.h < x.a ∧ x.a < (l.length : Int) := Jd.loopsT_in h l.length (Nat.le_refl _)
theorem lps_nest {l : List InstV} (h : CheckI l) : (lpsN l).Pairwise Nst := by
 have hn := (nestA_ok h.ne).1
 rw [List.pairwise_iff_getElem]
 intro i j hi hj hij
 have hi' : i < (loopsV l).length := by simpa [lpsN] using hi
 have hj' : j < (loopsV l).length := by simpa [lpsN] using hj
 have e1 : (loopsV l).getD i lp0 = (loopsV l)[i] := by rw [List.getD_eq_getElem?_getD, List.getElem?_eq_getElem hi']; rfl
 have e2 : (loopsV l).getD j lp0 = (loopsV l)[j] := by rw [List.getD_eq_getElem?_getD, List.getElem?_eq_getElem hj']; rfl
 have b := hn j (Nat.zero_le _) (by omega) i hij
 unfold nbad at b
 rw [e1, e2] at b
 have x1 := lps_in h _ (List.getElem_mem hi')
 have x2 := lps_in h _ (List.getElem_mem hj')
 simp only [lpsN, List.getElem_map]
 unfold Nst lpn
 dsimp only
 intro hh
 simp only [Bool.and_eq_false_iff, decide_eq_false_iff_not] at b
 omega
/-- a way forward into a loop leads to its head -/
theorem lps_enter {l : List InstV} (h : CheckI l) {p q : Nat} (hp : p < l.length) (hq : q = p + 1 ∨ (15 ≤ (l.getD p ins0).op ∧ (l.getD p ins0).op ≤ 19 ∧ q = p + (l.getD p ins0).d.toNat + 1)) :
 ∀ m ∈ lpsN l, ¬ m.has p → m.has q → q = m.h := by
 intro m hm h1 h2
 obtain ⟨x, hx, rfl⟩ := List.mem_map.1 hm
 have xi := lps_in h x hx
 unfold lpn LpN.has at h1 h2
 dsimp only at h1 h2
 show q = x.h.toNat
 rcases hq with rfl | ⟨o1, o2, e⟩
 · omega
 obtain ⟨j, hj, hje⟩ := List.getElem_of_mem hx
 have b := nestB_ok (nestA_ok h.ne).2 p (Nat.zero_le _) (by omega) j hj
 unfold jbad jbadM at b
 rw [show (loopsV l).getD j lp0 = x by rw [List.getD_eq_getElem?_getD, List.getElem?_eq_getElem hj]; exact hje] at b
 have hr := (Jd.place_of h hp).2.2.2
 have hi := right_is hr
 have d0 := hi.d0
 have g : goesV (l.getD p ins0) = ((l.getD p ins0).d + 1, true, (l.getD p ins0).op != 15) := by
  unfold goesV
  rw [if_pos hr, if_pos ⟨o1, o2⟩]
 rw [g] at b
 dsimp only at b
 by_cases hne : q = x.h.toNat
 · exact hne
 exfalso
 have i1 : inL x (p : Int) = false := by unfold inL; exact decide_eq_false (by omega)
 have i2 : inL x ((p : Int) + ((l.getD p ins0).d + 1)) = true := by unfold inL; exact decide_eq_true (by omega)
 have i3 : ((p : Int) + ((l.getD p ins0).d + 1) != x.h) = true := by
  rw [bne_iff_ne]
  omega
 have i4 : decide ((0 : Int) < (l.getD p ins0).d + 1) = true := decide_eq_true (by omega)
 rw [i1, i2, i3, i4] at b
 exact absurd b (by decide)
/-- the loop of a place stands between those that end ahead of it and those that end behind it -/
theorem loopsT_split {l : List InstV} (h : CheckI l) {p : Nat} (hop : (l.getD p ins0).op = 20) : ∀ k, p < k → k ≤ l.length → ∃ r, loopsT l k = loopsT l p ++ ⟨(p : Int) - (l.getD p ins0).d, p, (l.getD p ins0).m⟩ :: r ∧ ∀ x ∈ r, (p : Int) < x.a
 | 0, hk, _ => absurd hk (Nat.not_lt_zero _)
 | k + 1, hk, hl => by
   rw [loopsT]
   by_cases e : p = k
   · subst e
     rw [if_pos hop]
     exact ⟨[], rfl, fun x hx => absurd hx (by simp)⟩
   obtain ⟨r, h1, h2⟩ := loopsT_split h hop k (by omega) (by omega)
   rw [h1, List.append_assoc, List.cons_append]
   refine ⟨r ++ (if (l.getD k ins0).op = 20 then [⟨(k : Int) - (l.getD k ins0).d, k, (l.getD k ins0).m⟩] else []), rfl, fun x hx => ?_⟩
   rcases List.mem_append.1 hx with hx | hx
   · exact h2 x hx
   split at hx
   · rw [List.mem_singleton] at hx; subst hx; show (p : Int) < (k : Int); omega
   cases hx
theorem lps_split {l : List InstV} (h : CheckI l) {p : Nat} (hp : p < l.length) (hop : (l.getD p ins0).op = 20) : ∃ l1 l2, lpsN l = l1 ++ ⟨p - (l.getD p ins0).d.toNat, p, (l.getD p ins0).m.toNat⟩ :: l2 ∧ (∀ m ∈ l1, m.a < p) ∧ (∀ m ∈ l2, p < m.a) := by
 obtain ⟨r, h1, h2⟩ := loopsT_split h hop l.length hp (Nat.le_refl _)
 have hpl := Jd.place_of h hp
 have hd := hpl.2.2.1 hop
 have hr := (right_is hpl.2.2.2).l hop
 refine ⟨(loopsT l p).map lpn, r.map lpn, ?_, ?_, ?_⟩
 · unfold lpsN loopsV
   rw [h1, List.map_append, List.map_cons]
   congr 2
   unfold lpn
   dsimp only
   congr 1
   omega
 · intro m hm
   obtain ⟨x, hx, rfl⟩ := List.mem_map.1 hm
   have := Jd.loopsT_in h p (by omega) x hx
   show x.a.toNat < p
   omega
 intro m hm
 obtain ⟨x, hx, rfl⟩ := List.mem_map.1 hm
 have := h2 x hx
 show p < x.a.toNat
 omega

/-- the cost is the sum of how often each place is come to -/
theorem times_big {ls : List LoopV} {p : Int} (hb : ∀ x ∈ ls, 1 ≤ x.b) : ∀ (f j : Nat) (t : Int), j + f = ls.length → 257 ≤ t → 257 ≤ timesF ls p j f t
 | 0, _, _, _, h => h
 | f + 1, j, t, hj, h => by
   unfold timesF
   have hx : (ls.getD j lp0) ∈ ls := by rw [List.getD_eq_getElem?_getD, List.getElem?_eq_getElem (by omega)]; exact List.getElem_mem _
   have b := hb _ hx
   by_cases c : inL (ls.getD j lp0) p = true
   · rw [if_pos c]
     refine times_big hb f (j + 1) _ (by omega) ?_
     have : 257 * 2 ≤ t * ((ls.getD j lp0).b + 1) := Int.mul_le_mul h (by omega) (by decide) (by omega)
     unfold mn
     split <;> omega
   rw [if_neg c]; exact times_big hb f (j + 1) _ (by omega) h
theorem has_in {l : List InstV} {x : LoopV} (hx : 0 ≤ x.h ∧ 0 ≤ x.a) (q : Nat) : (lpn x).has q ↔ inL x (q : Int) = true := by
 unfold lpn LpN.has inL
 dsimp only
 rw [decide_eq_true_eq]
 omega
theorem times_is {ls : List LoopV} {q : Nat} (hb : ∀ x ∈ ls, 1 ≤ x.b ∧ 0 ≤ x.h ∧ 0 ≤ x.a) : ∀ (f j t : Nat), j + f = ls.length → timesF ls q j f t ≤ 256 →
 timesF ls q j f t = (((ls.drop j).map lpn).foldl (fun t l => if l.has q then t * (l.b + 1) else t) t : Nat)
 | 0, j, t, hj, _ => by
   rw [List.drop_of_length_le (by omega)]
   rfl
 | f + 1, j, t, hj, h => by
   have hl : j < ls.length := by omega
   have hx : (ls.getD j lp0) ∈ ls := by rw [List.getD_eq_getElem?_getD, List.getElem?_eq_getElem hl]; exact List.getElem_mem _
   have hd : ls.drop j = ls.getD j lp0 :: ls.drop (j + 1) := by rw [List.drop_eq_getElem_cons hl, List.getD_eq_getElem?_getD, List.getElem?_eq_getElem hl]; rfl
   have b := hb _ hx
   rw [hd, List.map_cons, List.foldl_cons]
   unfold timesF at h ⊢
   have e := has_in (l := []) b.2 q
   by_cases c : inL (ls.getD j lp0) (q : Int) = true
   · rw [if_pos c] at h ⊢
     rw [if_pos (e.2 c)]
     have e2 : (t : Int) * ((ls.getD j lp0).b + 1) = ((t * ((lpn (ls.getD j lp0)).b + 1) : Nat) : Int) := by
      unfold lpn
      push_cast
      rw [Int.toNat_of_nonneg (by omega)]
     rw [e2] at h ⊢
     generalize t * ((lpn (ls.getD j lp0)).b + 1) = u at h ⊢
     have hs : mn (u : Int) = (u : Int) := by
      unfold mn
      by_cases g : (257 : Int) < (u : Int)
      · exfalso
        have := times_big (p := (q : Int)) (fun x hx => (hb x hx).1) f (j + 1) (mn (u : Int)) (by omega) (by unfold mn; rw [if_pos g]; decide)
        omega
      rw [if_neg g]
     rw [hs] at h ⊢
     exact times_is hb f (j + 1) u (by omega) h
   rw [if_neg c] at h ⊢
   rw [if_neg (fun x => c (e.1 x))]
   exact times_is hb f (j + 1) t (by omega) h
theorem times_pos {ls : List LoopV} {p : Int} (hb : ∀ x ∈ ls, 1 ≤ x.b) : ∀ (f j : Nat) (t : Int), j + f = ls.length → 0 ≤ t → 0 ≤ timesF ls p j f t
 | 0, _, _, _, h => h
 | f + 1, j, t, hj, h => by
   unfold timesF
   have hx : (ls.getD j lp0) ∈ ls := by rw [List.getD_eq_getElem?_getD, List.getElem?_eq_getElem (by omega)]; exact List.getElem_mem _
   have b := hb _ hx
   by_cases c : inL (ls.getD j lp0) p = true
   · rw [if_pos c]
     refine times_pos hb f (j + 1) _ (by omega) ?_
     have : 0 ≤ t * ((ls.getD j lp0).b + 1) := Int.mul_nonneg h (by omega)
     unfold mn
     split <;> omega
   rw [if_neg c]; exact times_pos hb f (j + 1) _ (by omega) h
theorem cost_big {ls : List LoopV} (hb : ∀ x ∈ ls, 1 ≤ x.b) : ∀ (f p : Nat) (s : Int), 257 ≤ s → 257 ≤ costF ls p f s
 | 0, _, _, h => h
 | f + 1, p, s, h => by
   unfold costF
   have := times_pos (p := (p : Int)) hb ls.length 0 1 (by omega) (by omega)
   refine cost_big hb f (p + 1) _ ?_
   unfold mn
   split <;> omega
theorem cost_is {ls : List LoopV} (hb : ∀ x ∈ ls, 1 ≤ x.b ∧ 0 ≤ x.h ∧ 0 ≤ x.a) : ∀ (f p : Nat), costF ls p f (csum (ctimes (ls.map lpn)) p : Nat) ≤ 256 → costF ls p f (csum (ctimes (ls.map lpn)) p : Nat) = (csum (ctimes (ls.map lpn)) (p + f) : Nat)
 | 0, _, _ => rfl
 | f + 1, p, h => by
   unfold costF at h ⊢
   have h0 := times_pos (p := (p : Int)) (fun x hx => (hb x hx).1) ls.length 0 1 (by omega) (by omega)
   have hsm : ¬ 257 < (csum (ctimes (ls.map lpn)) p : Nat) + timesF ls p 0 ls.length 1 := fun g => by
    have := cost_big (fun x hx => (hb x hx).1) f (p + 1) (mn ((csum (ctimes (ls.map lpn)) p : Nat) + timesF ls p 0 ls.length 1)) (by unfold mn; rw [if_pos g]; decide)
    omega
   have hsm2 : ¬ 257 = (csum (ctimes (ls.map lpn)) p : Nat) + timesF ls p 0 ls.length 1 := fun g => by
    have := cost_big (fun x hx => (hb x hx).1) f (p + 1) (mn ((csum (ctimes (ls.map lpn)) p : Nat) + timesF ls p 0 ls.length 1)) (by unfold mn; rw [if_neg hsm, ← g]; decide)
    omega
   have ht := times_is (q := p) hb ls.length 0 1 (by omega) (by have : (0 : Int) ≤ (csum (ctimes (ls.map lpn)) p : Nat) := Int.natCast_nonneg _; show timesF ls p 0 ls.length 1 ≤ 256; omega)
   have e : mn ((csum (ctimes (ls.map lpn)) p : Nat) + timesF ls p 0 ls.length 1) = (csum (ctimes (ls.map lpn)) (p + 1) : Nat) := by
    unfold mn
    rw [if_neg hsm]
    rw [show timesF ls p 0 ls.length 1 = timesF ls p 0 ls.length ((1 : Nat) : Int) from rfl, ht]
    rw [List.drop_zero]
    show _ = ((csum (ctimes (ls.map lpn)) p + ctimes (ls.map lpn) p : Nat) : Int)
    push_cast
    rfl
   rw [e] at h ⊢
   rw [show p + (f + 1) = p + 1 + f by omega]
   exact cost_is hb f (p + 1) h
theorem cost_sum {l : List InstV} (h : CheckI l) : costV l = (csum (ctimes (lpsN l)) l.length : Nat) := by
 have := cost_is (ls := loopsV l) (fun x hx => by
  have a := Op.loopsV_b (Op.right_of_places h.pl) x hx
  have b := lps_in h x hx
  omega) l.length 0
 rw [Nat.zero_add] at this
 exact this h.co
end Go.Proofs.YtikkmkomlajnfaaGreatDoor.Lw
end

section
namespace Go.Proofs.YtikkmkomlajnfaaGreatDoor.Lw
open Go.RowKit
open Go.Proofs.YtikkmkomlajnfaaGreatDoor.Jd (JT j0 jnT fitsV numT)
open Go.Proofs.YtikkmkomlajnfaaGreatDoor.En (ofI)

/-- what a type says of a word -/
def TyV (nm : Nat) (t : JT) (x : BitVec 64) : Prop := (t.k = 1 → t.lo.toNat ≤ x.toNat ∧ x.toNat ≤ t.hi.toNat) ∧ (t.k = 2 → 0 ≤ t.m ∧ t.m < nm ∧ x = ofI t.m)
/-- of the eight registers -/
def RegsV (nm : Nat) (K : Nat → JT) (f : Nat → BitVec 64) : Prop := ∀ r, r < 8 → TyV nm (K r) (f r)
theorem ty_none {nm : Nat} {t : JT} (h : t.k = 0) (x : BitVec 64) : TyV nm t x := ⟨fun e => by omega, fun e => by omega⟩
theorem jn_left {nm : Nat} {a b : JT} {x : BitVec 64} (h : TyV nm a x) : TyV nm (jnT a b) x := by
 unfold jnT
 by_cases e : a.k = b.k ∧ a.m = b.m
 · rw [if_pos e]
   by_cases k : a.k = 1
   · rw [if_pos k]
     have := h.1 k
     refine ⟨fun _ => ?_, fun e => absurd (show (1 : Int) = 2 from e) (by decide)⟩
     show (Sp.minB a.lo b.lo).toNat ≤ x.toNat ∧ x.toNat ≤ (Sp.maxB a.hi b.hi).toNat
     unfold Sp.minB Sp.maxB
     constructor <;> split <;> omega
   rw [if_neg k]; exact h
 rw [if_neg e]; exact ty_none rfl x
theorem jn_right {nm : Nat} {a b : JT} {x : BitVec 64} (h : TyV nm b x) : TyV nm (jnT a b) x := by
 unfold jnT
 by_cases e : a.k = b.k ∧ a.m = b.m
 · rw [if_pos e]
   by_cases k : a.k = 1
   · rw [if_pos k]
     have := h.1 (by omega)
     refine ⟨fun _ => ?_, fun e => absurd (show (1 : Int) = 2 from e) (by decide)⟩
     show (Sp.minB a.lo b.lo).toNat ≤ x.toNat ∧ x.toNat ≤ (Sp.maxB a.hi b.hi).toNat
     unfold Sp.minB Sp.maxB
     constructor <;> split <;> omega
   rw [if_neg k]
   refine ⟨fun e2 => absurd e2 k, fun e2 => ?_⟩
   have := h.2 (by omega)
   rw [e.2]; exact this
 rw [if_neg e]; exact ty_none rfl x
theorem regs_set {nm : Nat} {K : Nat → JT} {f : Nat → BitVec 64} (h : RegsV nm K f) (d : Nat) {t : JT} {x : BitVec 64} (ht : TyV nm t x) : RegsV nm (Jd.updT K d t) (upd f d x) := by
 intro r hr
 unfold Jd.updT upd
 by_cases e : r = d
 · rw [if_pos e, if_pos e]; exact ht
 rw [if_neg e, if_neg e]; exact h r hr
theorem ty_num {nm : Nat} {lo hi x : BitVec 64} (h1 : lo.toNat ≤ x.toNat) (h2 : x.toNat ≤ hi.toNat) : TyV nm (numT lo hi) x := ⟨fun _ => ⟨h1, h2⟩, fun e => absurd (show (1 : Int) = 2 from e) (by decide)⟩
theorem fits_ty {nm : Nat} {a b : JT} {x : BitVec 64} (hf : fitsV a b = true) (h : TyV nm a x) : TyV nm b x := by
 unfold fitsV at hf
 by_cases k1 : b.k = 1
 · rw [if_pos k1] at hf
   by_cases a1 : a.k = 1
   · rw [if_pos a1] at hf
     have := h.1 a1
     refine ⟨fun _ => ?_, fun e => by omega⟩
     unfold Sp.withinB uv at hf
     simp at hf
     omega
   rw [if_neg a1] at hf; cases hf
 rw [if_neg k1] at hf
 by_cases k2 : b.k = 2
 · rw [if_pos k2] at hf
   have e : a = b := of_decide_eq_true hf
   rw [← e]; exact h
 exact ⟨fun e => absurd e k1, fun e => absurd e k2⟩
theorem src_ty {nm : Nat} {i : Op.InstV} {K : Nat → JT} {f : Nat → BitVec 64} (hb : i.b = 8 ∨ (0 ≤ i.b ∧ i.b < 8)) (h : RegsV nm K f) : TyV nm (Jd.srcT i K) (En.srcU i f) := by
 unfold Jd.srcT En.srcU
 by_cases e : i.b = 8
 · rw [if_pos e, if_pos e]; exact ty_num (Nat.le_refl _) (Nat.le_refl _)
 rw [if_neg e, if_neg e]; exact h _ (by omega)
theorem nums1 {t : JT} (h : Jd.numsV [t] = 0) : t.k = 1 := by
 unfold Jd.numsV at h
 by_cases e : t.k = 1
 · exact e
 rw [if_neg e] at h; cases h
theorem nums2 {t u : JT} (h : Jd.numsV [t, u] = 0) : t.k = 1 ∧ u.k = 1 := by
 unfold Jd.numsV at h
 by_cases e : t.k = 1
 · rw [if_pos e] at h; exact ⟨e, nums1 h⟩
 rw [if_neg e] at h; cases h
theorem first0 {a b : Int} (h : Jd.firstV a b = 0) : a = 0 ∧ b = 0 := by
 unfold Jd.firstV at h
 by_cases e : a = 0
 · rw [if_pos e] at h; exact ⟨e, h⟩
 rw [if_neg e] at h; exact absurd h e
theorem srcv_ty {nm : Nat} {i : Op.InstV} {K : Nat → JT} {f : Nat → BitVec 64} (hb : i.b = 8 ∨ (0 ≤ i.b ∧ i.b < 8)) (h : RegsV nm K f) : TyV nm (Jd.srcV i K) (En.srcU i f) := by
 unfold Jd.srcV
 by_cases e : Op.sourceV i = true
 · rw [if_pos e]; exact src_ty hb h
 rw [if_neg e]; exact ty_none rfl _
theorem word_ok {nm : Nat} {t : JT} {x : BitVec 64} (h : TyV nm t x) (k : t.k = 1) (hw : Jd.wordV t = 0) : x.toNat < 16 := by
 have := h.1 k
 unfold Jd.wordV at hw
 by_cases e : Sp.withinB (uv t.lo) (uv t.hi) 0 15 = true
 · unfold Sp.withinB uv at e
   simp at e
   omega
 rw [if_neg e] at hw; cases hw
/-- a code that the judge lets through is right to run: its words are there -/
theorem one_ok {nm : Nat} {i : Op.InstV} {K H : Nat → JT} {S : En.StV} (hb : i.b = 8 ∨ (0 ≤ i.b ∧ i.b < 8)) (h : RegsV nm K S.regs) (ho : (Jd.oneV i K H nm).2 = 0) : En.okI i S := by
 intro hop
 unfold Jd.oneV at ho
 rcases hop with e | e
 · rw [if_neg (by omega), if_pos e] at ho
   have ⟨h1, h2⟩ := first0 ho
   exact word_ok (srcv_ty hb h) (nums1 h1) h2
 rw [if_neg (by omega), if_neg (by omega), if_pos e] at ho
 have ⟨h1, h2⟩ := first0 ho
 exact word_ok (srcv_ty hb h) (nums2 h1).2 h2
theorem full_ty (nm : Nat) (x : BitVec 64) : TyV nm Jd.fullT x := by
 have := x.isLt
 exact ty_num (by simp) (by show x.toNat ≤ Sp.mostB.toNat; simp [Sp.mostB]; omega)
/-- what an instruction that is neither a way, a call nor an exit leaves is of the type that the judge says -/
theorem one_keeps {nm : Nat} {i : Op.InstV} {K H : Nat → JT} {S : En.StV} {ea eb : BitVec 64} (hi : Op.RightI i) (h : RegsV nm K S.regs) (ho : (Jd.oneV i K H nm).2 = 0) (h16 : i.op ≤ 14) : RegsV nm (Jd.oneV i K H nm).1 (En.runS ea eb i S).regs := by
 have ho0 := hi.o0
 have ha0 := hi.a0
 have ha1 := hi.a1
 have hs := srcv_ty (i := i) (K := K) hi.b h
 have hp := hi.p
 unfold Jd.oneV at ho ⊢
 unfold En.runS
 by_cases e0 : i.op = 0
 · rw [if_pos e0] at ho ⊢
   rw [if_pos e0]
   by_cases k : (Jd.srcV i K).k = 0
   · rw [if_pos k] at ho; cases ho
   rw [if_neg k]; exact regs_set h _ hs
 rw [if_neg e0] at ho ⊢
 rw [if_neg e0]
 by_cases e1 : i.op = 11
 · rw [if_pos e1]; rw [if_pos e1]; exact regs_set h _ (full_ty _ _)
 rw [if_neg e1] at ho ⊢
 rw [if_neg e1]
 by_cases e2 : i.op = 12
 · rw [if_pos e2]; rw [if_pos e2]; exact h
 rw [if_neg e2] at ho ⊢
 rw [if_neg e2]
 by_cases e3 : i.op = 13
 · rw [if_pos e3]; rw [if_pos e3]; exact regs_set h _ (full_ty _ _)
 rw [if_neg e3] at ho ⊢
 rw [if_neg e3]
 by_cases e4 : i.op = 14
 · rw [if_pos e4] at ho ⊢
   rw [if_pos e4]
   by_cases k : (nm : Int) ≤ i.m
   · rw [if_pos k] at ho; cases ho
   exact regs_set h _ ⟨fun e => absurd (show (2 : Int) = 1 from e) (by decide), fun _ => ⟨(hp e4).1, by show i.m < nm; omega, rfl⟩⟩
 have hd : 1 ≤ i.op ∧ i.op ≤ 10 := by omega
 have hk : AM.doOk i.op = true := decide_eq_true hd
 rw [if_neg e4, if_neg (show ¬ i.op = 15 by omega), if_neg (show ¬ i.op = 16 by omega), if_neg (show ¬ i.op = 17 by omega), if_neg (show ¬ i.op = 18 by omega), if_neg (show ¬ i.op = 19 by omega), if_neg (show ¬ i.op = 20 by omega), if_neg (show ¬ i.op = 21 by omega), if_neg (show ¬ i.op = 22 by omega)] at ho ⊢
 rw [if_neg e4, if_neg (show ¬ i.op = 15 by omega), if_neg (show ¬ i.op = 20 by omega), if_pos hk]
 have ⟨ka, ks⟩ := nums2 ho
 have ta := (h i.a.toNat (by omega)).1 ka
 have ts := hs.1 ks
 have := (Sp.dos_sound ta.1 ta.2 ts.1 ts.2 hk).2
 exact regs_set h _ (ty_num this.1 this.2)
theorem srcv_eq {i : Op.InstV} {K : Nat → JT} (k : (Jd.srcV i K).k = 1) : Jd.srcV i K = Jd.srcT i K := by
 unfold Jd.srcV at k ⊢
 by_cases e : Op.sourceV i = true
 · rw [if_pos e]
 rw [if_neg e] at k; exact absurd (show (0 : Int) = 1 from k) (by decide)
theorem regs_num {nm : Nat} {K : Nat → JT} {f : Nat → BitVec 64} (h : RegsV nm K f) (a : Nat) {t : JT} (ht : TyV nm t (f a)) : RegsV nm (Jd.updT K a t) f := by
 intro r hr
 unfold Jd.updT
 by_cases e : r = a
 · rw [if_pos e, e]; exact ht
 rw [if_neg e]; exact h r hr
/-- of two ways the one that is gone is open, and what the judge says there is so -/
theorem way_keeps {nm : Nat} {i : Op.InstV} {K : Nat → JT} {f : Nat → BitVec 64} (hi : Op.RightI i) (h : RegsV nm K f) (ho : Jd.numsV [K i.a.toNat, Jd.srcV i K] = 0) (hop : 16 ≤ i.op ∧ i.op ≤ 19) :
 (Jd.wayT i K (AM.hdV i.op (f i.a.toNat) (En.srcU i f))).2 = true ∧ RegsV nm (Jd.wayK i K (AM.hdV i.op (f i.a.toNat) (En.srcU i f))) f := by
 have ha0 := hi.a0
 have ha1 := hi.a1
 have hs := srcv_ty (i := i) (K := K) hi.b h
 have hk : AM.hdOk i.op = true := decide_eq_true hop
 have ⟨ka, ks⟩ := nums2 ho
 have ta := (h i.a.toNat (by omega)).1 ka
 have ts := hs.1 ks
 rw [srcv_eq ks] at ts
 have := Sp.ref_sound ta.1 ta.2 ts.1 ts.2 hk
 exact ⟨this.1, regs_num h _ (ty_num this.2.1.1 this.2.1.2)⟩
end Go.Proofs.YtikkmkomlajnfaaGreatDoor.Lw
end

section
namespace Go.Proofs.YtikkmkomlajnfaaGreatDoor.Lw
open Go.RowKit
open Go.Proofs.YtikkmkomlajnfaaGreatDoor.Jd (JT j0 jnT fitsV numT updT updC updN comC wid1 widF widX widP widC onC jdF oneV wayT wayK wayTo wayC wayN waysC waysN allFit fullT c0 n0 resT)
open Go.Proofs.YtikkmkomlajnfaaGreatDoor.En (ofI StV)
open Go.Proofs.YtikkmkomlajnfaaGreatDoor.Op (InstV ins0 LoopV lp0 loopsV rightV right_is RightI writesV CheckI)

/-- whatever is so of the one is so of the other -/
def Acc (nm : Nat) (K K' : Nat → JT) : Prop := ∀ f, RegsV nm K f → RegsV nm K' f
theorem Acc.rfl' {nm : Nat} {K : Nat → JT} : Acc nm K K := fun _ h => h
theorem Acc.trans {nm : Nat} {K K' K'' : Nat → JT} (h : Acc nm K K') (k : Acc nm K' K'') : Acc nm K K'' := fun f x => k f (h f x)
theorem upd_acc {nm : Nat} {K : Nat → JT} {r0 : Nat} {t : JT} (h : ∀ x, TyV nm (K r0) x → TyV nm t x) : Acc nm K (updT K r0 t) := by
 intro f hf r hr
 unfold updT
 by_cases e : r = r0
 · rw [if_pos e]; subst e; exact h _ (hf r hr)
 rw [if_neg e]; exact hf r hr
theorem wid1_acc {nm : Nat} {K : Nat → JT} {i : InstV} : Acc nm K (wid1 K i) := by
 unfold wid1
 by_cases h : (writesV i).2 = true
 · rw [if_pos h]
   refine upd_acc fun x _ => ?_
   split
   · exact full_ty nm x
   exact ty_none rfl x
 rw [if_neg h]; exact Acc.rfl'
theorem widF_acc {nm : Nat} {l : List InstV} : ∀ {f j : Nat} {K : Nat → JT}, Acc nm K (widF l K j f)
 | 0, _, _ => Acc.rfl'
 | f + 1, j, K => by
   unfold widF
   exact wid1_acc.trans widF_acc
theorem widX_acc {nm : Nat} {l : List InstV} {p : Int} {K : Nat → JT} {x : LoopV} : Acc nm K (widX l p K x) := by
 unfold widX
 by_cases c : x.h = p
 · rw [if_pos c]; exact widF_acc
 rw [if_neg c]; exact Acc.rfl'
theorem widP_acc {nm : Nat} {ls : List LoopV} {l : List InstV} {p : Int} : ∀ {f k : Nat} {K : Nat → JT}, Acc nm K (widP ls l p K k f)
 | 0, _, _ => Acc.rfl'
 | f + 1, k, K => by
   unfold widP
   exact widX_acc.trans widP_acc
theorem com_new {nm : Nat} {C : Nat → Nat → JT} {N : Nat → Bool} {p : Nat} {K : Nat → JT} : Acc nm K (comC C N p K p) := by
 intro f hf r hr
 unfold comC
 by_cases h : N p = true
 · rw [if_pos h]; unfold updC; rw [if_pos rfl]; exact jn_right (hf r hr)
 rw [if_neg h]; unfold updC; rw [if_pos rfl]; exact hf r hr
theorem com_old {nm : Nat} {C : Nat → Nat → JT} {N : Nat → Bool} {p q : Nat} {K : Nat → JT} (hq : N q = true) : Acc nm (C q) (comC C N p K q) := by
 intro f hf r hr
 unfold comC
 by_cases e : q = p
 · subst e
   rw [if_pos hq]; unfold updC; rw [if_pos rfl]; exact jn_left (hf r hr)
 by_cases h : N p = true
 · rw [if_pos h]; unfold updC; rw [if_neg e]; exact hf r hr
 rw [if_neg h]; unfold updC; rw [if_neg e]; exact hf r hr
theorem com_far {C : Nat → Nat → JT} {N : Nat → Bool} {p q : Nat} {K : Nat → JT} (e : q ≠ p) : comC C N p K q = C q := by
 unfold comC
 by_cases h : N p = true
 · rw [if_pos h]; unfold updC; rw [if_neg e]
 rw [if_neg h]; unfold updC; rw [if_neg e]
theorem updN_new {N : Nat → Bool} {p : Nat} : updN N p p = true := if_pos rfl
theorem updN_old {N : Nat → Bool} {p q : Nat} (h : N q = true) : updN N p q = true := by unfold updN; split <;> first | rfl | exact h
theorem updN_far {N : Nat → Bool} {p q : Nat} (e : q ≠ p) : updN N p q = N q := if_neg e

/-- what was come to, and with what, is never less -/
def Rise (nm : Nat) (C : Nat → Nat → JT) (N : Nat → Bool) (C' : Nat → Nat → JT) (N' : Nat → Bool) : Prop := ∀ q, N q = true → N' q = true ∧ Acc nm (C q) (C' q)
theorem Rise.rfl' {nm : Nat} {C : Nat → Nat → JT} {N : Nat → Bool} : Rise nm C N C N := fun _ h => ⟨h, Acc.rfl'⟩
theorem Rise.trans {nm : Nat} {C C' C'' : Nat → Nat → JT} {N N' N'' : Nat → Bool} (h : Rise nm C N C' N') (k : Rise nm C' N' C'' N'') : Rise nm C N C'' N'' :=
 fun q hq => ⟨(k q (h q hq).1).1, (h q hq).2.trans (k q (h q hq).1).2⟩
theorem com_rise {nm : Nat} {C : Nat → Nat → JT} {N : Nat → Bool} {p : Nat} {K : Nat → JT} : Rise nm C N (comC C N p K) (updN N p) := fun _ h => ⟨updN_old h, com_old h⟩
theorem way_rise {nm : Nat} {i : InstV} {K : Nat → JT} {p : Nat} {h : Bool} {C : Nat → Nat → JT} {N : Nat → Bool} : Rise nm C N (wayC i K p h C N) (wayN i K p h N) := by
 unfold wayC wayN
 by_cases c : (wayT i K h).2 = true
 · rw [if_pos c, if_pos c]; exact com_rise
 rw [if_neg c, if_neg c]; exact Rise.rfl'
theorem ways_rise {nm : Nat} {i : InstV} {K : Nat → JT} {p : Nat} {C : Nat → Nat → JT} {N : Nat → Bool} : Rise nm C N (waysC i K p C N) (waysN i K p N) := by
 unfold waysC waysN
 by_cases c1 : i.op = 22
 · rw [if_pos c1, if_pos c1]; exact Rise.rfl'
 rw [if_neg c1, if_neg c1]
 by_cases c2 : i.op = 15
 · rw [if_pos c2, if_pos c2]; exact com_rise
 rw [if_neg c2, if_neg c2]
 by_cases c3 : 16 ≤ i.op ∧ i.op ≤ 19
 · rw [if_pos c3, if_pos c3]; exact way_rise.trans way_rise
 rw [if_neg c3, if_neg c3]; exact com_rise
theorem wayTo_gt {i : InstV} {p : Nat} {h : Bool} : p < wayTo i p h := by unfold wayTo; split <;> omega
theorem way_far {i : InstV} {K : Nat → JT} {p q : Nat} {h : Bool} {C : Nat → Nat → JT} {N : Nat → Bool} (hq : q ≤ p) : wayC i K p h C N q = C q ∧ wayN i K p h N q = N q := by
 have g := wayTo_gt (i := i) (p := p) (h := h)
 unfold wayC wayN
 by_cases c : (wayT i K h).2 = true
 · rw [if_pos c, if_pos c]; exact ⟨com_far (by omega), updN_far (by omega)⟩
 rw [if_neg c, if_neg c]; exact ⟨rfl, rfl⟩
theorem ways_far {i : InstV} {K : Nat → JT} {p q : Nat} {C : Nat → Nat → JT} {N : Nat → Bool} (hq : q ≤ p) : waysC i K p C N q = C q ∧ waysN i K p N q = N q := by
 unfold waysC waysN
 by_cases c1 : i.op = 22
 · rw [if_pos c1, if_pos c1]; exact ⟨rfl, rfl⟩
 rw [if_neg c1, if_neg c1]
 by_cases c2 : i.op = 15
 · rw [if_pos c2, if_pos c2]; exact ⟨com_far (by omega), updN_far (by omega)⟩
 rw [if_neg c2, if_neg c2]
 by_cases c3 : 16 ≤ i.op ∧ i.op ≤ 19
 · rw [if_pos c3, if_pos c3]
   have h1 := way_far (i := i) (K := K) (h := true) (C := C) (N := N) hq
   have h2 := way_far (i := i) (K := K) (h := false) (C := wayC i K p true C N) (N := wayN i K p true N) hq
   exact ⟨h2.1.trans h1.1, h2.2.trans h1.2⟩
 rw [if_neg c3, if_neg c3]; exact ⟨com_far (by omega), updN_far (by omega)⟩

/-- where an instruction leads to from p, what it leaves is known -/
structure Leads (nm : Nat) (i : InstV) (K : Nat → JT) (p : Nat) (T : Nat → Nat → JT) (M : Nat → Bool) : Prop where
 on : i.op ≠ 22 → i.op ≠ 15 → ¬ (16 ≤ i.op ∧ i.op ≤ 19) → M (p + 1) = true ∧ Acc nm K (T (p + 1))
 jump : i.op = 15 → M (p + i.d.toNat + 1) = true ∧ Acc nm K (T (p + i.d.toNat + 1))
 way : 16 ≤ i.op → i.op ≤ 19 → ∀ h, (wayT i K h).2 = true → M (wayTo i p h) = true ∧ Acc nm (wayK i K h) (T (wayTo i p h))
theorem Leads.rise {nm : Nat} {i : InstV} {K : Nat → JT} {p : Nat} {T T' : Nat → Nat → JT} {M M' : Nat → Bool} (h : Leads nm i K p T M) (k : Rise nm T M T' M') : Leads nm i K p T' M' :=
 ⟨fun a b c => ⟨(k _ (h.on a b c).1).1, (h.on a b c).2.trans (k _ (h.on a b c).1).2⟩, fun a => ⟨(k _ (h.jump a).1).1, (h.jump a).2.trans (k _ (h.jump a).1).2⟩,
  fun a b x c => ⟨(k _ (h.way a b x c).1).1, (h.way a b x c).2.trans (k _ (h.way a b x c).1).2⟩⟩
theorem way_new {nm : Nat} {i : InstV} {K : Nat → JT} {p : Nat} {h : Bool} {C : Nat → Nat → JT} {N : Nat → Bool} (c : (wayT i K h).2 = true) : wayN i K p h N (wayTo i p h) = true ∧ Acc nm (wayK i K h) (wayC i K p h C N (wayTo i p h)) := by
 unfold wayC wayN
 rw [if_pos c, if_pos c]
 exact ⟨updN_new, com_new⟩
theorem ways_leads {nm : Nat} {i : InstV} {K : Nat → JT} {p : Nat} {C : Nat → Nat → JT} {N : Nat → Bool} : Leads nm i K p (waysC i K p C N) (waysN i K p N) := by
 refine ⟨fun a b c => ?_, fun a => ?_, fun a b h c => ?_⟩
 · unfold waysC waysN
   rw [if_neg a, if_neg a, if_neg b, if_neg b, if_neg c, if_neg c]
   exact ⟨updN_new, com_new⟩
 · unfold waysC waysN
   rw [if_neg (show ¬ i.op = 22 by omega), if_neg (show ¬ i.op = 22 by omega), if_pos a, if_pos a]
   exact ⟨updN_new, com_new⟩
 unfold waysC waysN
 rw [if_neg (show ¬ i.op = 22 by omega), if_neg (show ¬ i.op = 22 by omega), if_neg (show ¬ i.op = 15 by omega), if_neg (show ¬ i.op = 15 by omega), if_pos (show 16 ≤ i.op ∧ i.op ≤ 19 from ⟨a, b⟩), if_pos (show 16 ≤ i.op ∧ i.op ≤ 19 from ⟨a, b⟩)]
 cases h with
 | true =>
   have n := way_new (nm := nm) (p := p) (C := C) (N := N) c
   have r := way_rise (nm := nm) (i := i) (K := K) (p := p) (h := false) (C := wayC i K p true C N) (N := wayN i K p true N) _ n.1
   exact ⟨r.1, n.2.trans r.2⟩
 | false => exact way_new c

/-- what is known of the place p, when all is gone over -/
structure AtP (nm : Nat) (l : List InstV) (p : Nat) (T : Nat → Nat → JT) (M : Nat → Bool) : Prop where
 ok : (oneV (l.getD p ins0) (T p) (T (p - (l.getD p ins0).d.toNat)) nm).2 = 0
 lead : Leads nm (l.getD p ins0) (oneV (l.getD p ins0) (T p) (T (p - (l.getD p ins0).d.toNat)) nm).1 p T M
theorem jd_holds {nm : Nat} {ls : List LoopV} {l : List InstV} : ∀ {f p : Nat} {C : Nat → Nat → JT} {N : Nat → Bool}, (jdF nm ls l C N p f).2.2 = 0 →
 (∀ q, q < p → (jdF nm ls l C N p f).1.1 q = C q ∧ (jdF nm ls l C N p f).1.2 q = N q) ∧ Rise nm C N (jdF nm ls l C N p f).1.1 (jdF nm ls l C N p f).1.2 ∧
   ∀ q, p ≤ q → q < p + f → (jdF nm ls l C N p f).1.2 q = true → AtP nm l q (jdF nm ls l C N p f).1.1 (jdF nm ls l C N p f).1.2
 | 0, p, C, N, _ => ⟨fun _ _ => ⟨rfl, rfl⟩, Rise.rfl', fun q h1 h2 => by omega⟩
 | f + 1, p, C, N, h => by
   unfold jdF at h ⊢
   by_cases hN : N p = true
   · rw [if_pos hN] at h ⊢
     by_cases e : (onC nm l (widC ls l C p) p).2 = 0
     · rw [if_pos e] at h ⊢
       have hw : ∀ q, q ≠ p → widC ls l C p q = C q := fun q hq => by unfold widC updC; rw [if_neg hq]
       have hwr : Rise nm C N (widC ls l C p) N := fun q hq => ⟨hq, by
        by_cases e : q = p
        · subst e; unfold widC updC; rw [if_pos rfl]; exact widP_acc
        rw [hw q e]; exact Acc.rfl'⟩
       obtain ⟨i1, i2, i3⟩ := jd_holds h
       generalize hT : (jdF nm ls l (waysC (l.getD p ins0) (onC nm l (widC ls l C p) p).1 p (widC ls l C p) N) (waysN (l.getD p ins0) (onC nm l (widC ls l C p) p).1 p N) (p + 1) f).1 = TM at i1 i2 i3 ⊢
       clear h hT
       obtain ⟨T, M⟩ := TM
       dsimp only at i1 i2 i3 ⊢
       have hlow : ∀ q, q ≤ p → T q = widC ls l C p q ∧ M q = N q := fun q hq => by
        have a := i1 q (by omega)
        have b := ways_far (i := l.getD p ins0) (K := (onC nm l (widC ls l C p) p).1) (C := widC ls l C p) (N := N) hq
        exact ⟨a.1.trans b.1, a.2.trans b.2⟩
       refine ⟨fun q hq => ?_, (hwr.trans ways_rise).trans i2, fun q h1 h2 hq => ?_⟩
       · have a := hlow q (by omega)
         exact ⟨a.1.trans (hw q (by omega)), a.2⟩
       by_cases c : q = p
       · subst c
         have e1 : oneV (l.getD q ins0) (T q) (T (q - (l.getD q ins0).d.toNat)) nm = onC nm l (widC ls l C q) q := by
          rw [(hlow q (Nat.le_refl _)).1, (hlow (q - (l.getD q ins0).d.toNat) (by omega)).1]; rfl
         refine ⟨by rw [e1]; exact e, ?_⟩
         rw [e1]
         exact ways_leads.rise i2
       exact i3 q (by omega) (by omega) hq
     rw [if_neg e] at h
     exact absurd h e
   rw [if_neg hN] at h ⊢
   obtain ⟨i1, i2, i3⟩ := jd_holds h
   refine ⟨fun q hq => i1 q (by omega), i2, fun q h1 h2 hq => ?_⟩
   by_cases c : q = p
   · subst c
     rw [(i1 q (by omega)).2] at hq
     exact absurd hq hN
   exact i3 q (by omega) (by omega) hq

theorem nochange {nm : Nat} {f : Nat → BitVec 64} : RegsV nm (fun _ => j0) f := fun _ _ => ty_none rfl _
/-- a typing of a code: it holds at the beginning, and where it holds a step is right -/
structure TypedV (nm : Nat) (l : List InstV) (T : Nat → Nat → JT) (M : Nat → Bool) : Prop where
 z : M 0 = true
 t0 : ∀ f, RegsV nm (T 0) f
 at_ : ∀ p, p < l.length → M p = true → AtP nm l p T M
theorem judged_typed {ms : List Int} {l : List InstV} (h : (Jd.judV ms l).2 = 0) : Jd.goodV ms = true ∧ (Op.checkV l).2 = 0 ∧ ∃ T M, TypedV ms.length l T M := by
 unfold Jd.judV at h
 by_cases hg : Jd.goodV ms = true
 · rw [if_pos hg] at h
   by_cases hc : (Op.checkV l).2 = 0
   · rw [if_pos hc] at h
     obtain ⟨_, i2, i3⟩ := jd_holds h
     have z := i2 0 (by unfold n0; exact updN_new)
     exact ⟨hg, hc, _, _, z.1, fun f => z.2 f nochange, fun p hp hm => i3 p (Nat.zero_le _) (by omega) hm⟩
   rw [if_neg hc] at h; exact absurd h hc
 rw [if_neg hg] at h; exact absurd (show (2 : Int) = 0 from h) (by decide)
end Go.Proofs.YtikkmkomlajnfaaGreatDoor.Lw
end
