/-
  The walk of the law SigsFits. Conditions: those of each theorem.
-/
import Derived.Test.YthmfenagdoefcaaDoorSigsI
import Derived.Test.YthmfenagdoefcaaDoorSigsG
import Derived.Deep.DeepCutAuto
namespace Go.Proofs.YthmfenagdoefcaaDoor
open Go.RowKit

theorem within_self (lo hi : Int) (h : lo ≤ hi) : withinB lo hi lo hi = true := by unfold withinB; exact decide_eq_true ⟨h, Int.le_refl _, Int.le_refl _⟩
theorem ckL_self : ∀ L : List TypeV, (∀ t ∈ L, t.lo ≤ t.hi) → ckL L L = 0
  | [], _ => rfl
  | t :: r, h => by
    rw [ckL, if_neg (fun e => e rfl), if_neg (fun e => by rw [within_self _ _ (h t (List.mem_cons_self ..))] at e; exact absurd e.2 (by simp))]
    exact ckL_self r fun u hu => h u (List.mem_cons_of_mem _ hu)
theorem ckL_set : ∀ (L : List TypeV) (i : Nat) (x : TypeV), (∀ t ∈ L, t.lo ≤ t.hi) → i < L.length → x.kind ≠ (L.getD i ty0).kind → ckL L (L.set i x) = 33
  | t :: r, 0, x, _, _, hx => by
    show ckL (t :: r) (x :: r) = 33
    have hx2 : x.kind ≠ t.kind := hx
    rw [ckL, if_pos hx2]
  | t :: r, i + 1, x, h, hi, hx => by
    show ckL (t :: r) (t :: r.set i x) = 33
    rw [ckL, if_neg (fun e => e rfl), if_neg (fun e => by rw [within_self _ _ (h t (List.mem_cons_self ..))] at e; exact absurd e.2 (by simp))]
    exact ckL_set r i x (fun u hu => h u (List.mem_cons_of_mem _ hu)) (by simpa using hi) hx
theorem argsL_facts (y : Nat) (hy : y < 7) : 0 < (argsL y).length ∧ (∀ t ∈ argsL y, t.lo ≤ t.hi ∧ (t.kind = 1 ∨ t.kind = 2)) ∧ adB y = (((argsL y).getD 0 ty0).kind == 2) ∧ fdI (nmB y) = y ∧ fdB (nmB y) = true := by
  rcases y_cases hy with rfl | rfl | rfl | rfl | rfl | rfl | rfl
  all_goals
    refine ⟨by decide, ?_, by decide, by decide, by decide⟩
    intro t ht
  · rw [argsL_0] at ht; simp at ht; rcases ht with rfl | rfl <;> decide
  · rw [argsL_1] at ht; simp at ht; rcases ht with rfl | rfl <;> decide
  · rw [argsL_2] at ht; simp at ht; rcases ht with rfl | rfl <;> decide
  · rw [argsL_3] at ht; simp at ht; rcases ht with rfl | rfl <;> decide
  · rw [argsL_4] at ht; simp at ht; rcases ht with rfl | rfl <;> decide
  · rw [argsL_5] at ht; simp at ht; subst ht; decide
  · rw [argsL_6] at ht; simp at ht; subst ht; decide
theorem own_set {w : World} {B : Nat} {e : TypeId} {size : Nat} {v : Value} {n g k : Nat} {xs : List Value} (h : w.ownsRow B e size v n xs) (hv : v.ownBlock = some g) (hk : k < n * size) (u : Value) : (w.setCell ⟨g, k, none⟩ u).ownsRow B e size v n (xs.set k u) := by
  rcases h.2 with ⟨rfl, _⟩ | ⟨g', cap, cur, rfl, hb, hg, hnc, hcm, hs, ht⟩
  · cases hv
  · injection hv with hv
    subst hv
    refine ⟨by rw [List.length_set]; exact h.1, .inr ⟨g', cap, cur.setIfInBounds k u, rfl, hb, ?_, hnc, hcm, by simpa using hs, ?_⟩⟩
    · simp [World.setCell, Array.getElem?_modify, hg]
    · rw [← ht, Array.toList_setIfInBounds, List.take_set]
theorem tys_set : ∀ (l : List TypeV) (i : Nat) (x : TypeV), i < l.length → ((((tys l).set (i * 4) (.int .i64 x.kind)).set (i * 4 + 1) (.int .u64 x.lo)).set (i * 4 + 2) (.int .u64 x.hi)).set (i * 4 + 3) (.int .i64 x.mp) = tys (l.set i x)
  | f :: r, 0, x, _ => rfl
  | f :: r, i + 1, x, hi => by
    have ih := tys_set r i x (by simpa using hi)
    have e : (i + 1) * 4 = i * 4 + 4 := by omega
    rw [e]
    show (((([Value.int .i64 f.kind, .int .u64 f.lo, .int .u64 f.hi, .int .i64 f.mp] ++ tys r).set (i * 4 + 4) (.int .i64 x.kind)).set (i * 4 + 4 + 1) (.int .u64 x.lo)).set (i * 4 + 4 + 2) (.int .u64 x.hi)).set (i * 4 + 4 + 3) (.int .i64 x.mp) = tyc f ++ tys (r.set i x)
    rw [← ih]
    rfl
theorem own_cells {w : World} {B : Nat} {e : TypeId} {size : Nat} {v : Value} {n g : Nat} {xs : List Value} (h : w.ownsRow B e size v n xs) (hv : v.ownBlock = some g) (k : Nat) (hk : k < n * size) : w.cell? ⟨g, k, none⟩ = some (xs.getD k undef) := by
  rcases h.2 with ⟨rfl, _⟩ | ⟨g', cap, cur, rfl, hb, hg, hnc, hcm, hs, ht⟩
  · cases hv
  · injection hv with hv
    subst hv
    have h1 : k < cur.size := by
      have h1 := congrArg List.length ht
      have h2 := h.1
      simp only [List.length_take, Array.length_toList] at h1
      omega
    rw [cell_of_row w g' k cur e (0, 0) hg, ← ht, List.getD_eq_getElem?_getD, List.getElem?_take, if_pos hk, Array.getElem?_toList, Array.getElem?_eq_getElem h1]
    rfl
theorem own_frozen {w : World} {B : Nat} {e : TypeId} {size : Nat} {v : Value} {n g : Nat} {xs : List Value} (h : w.ownsRow B e size v n xs) (hv : v.ownBlock = some g) : ∀ i, w.frozen? ⟨g, i, none⟩ = false := by
  rcases h.2 with ⟨rfl, _⟩ | ⟨g', cap, cur, rfl, hb, hg, hnc, hcm, hs, ht⟩
  · cases hv
  · injection hv with hv
    subst hv
    exact fun i => by simp [World.frozen?, hg]
theorem far4 {w : World} {b g i0 i1 i2 i3 j : Nat} {a0 a1 a2 a3 : Value} (hne : b ≠ g) : ((((w.setCell ⟨g, i0, none⟩ a0).setCell ⟨g, i1, none⟩ a1).setCell ⟨g, i2, none⟩ a2).setCell ⟨g, i3, none⟩ a3).cell? ⟨b, j, none⟩ = w.cell? ⟨b, j, none⟩ := by
  refine World.cell?_of_block ?_
  rw [Below.heap_setCell _ _ _ b (fun e => hne e), Below.heap_setCell _ _ _ b (fun e => hne e), Below.heap_setCell _ _ _ b (fun e => hne e), Below.heap_setCell _ _ _ b (fun e => hne e)]
theorem sl_tys {w : World} {b o : Nat} {l : List TypeV} (h : Sl w (some ⟨b, o, none⟩) (tys l)) (k : Nat) (hk : k < l.length) (j : Nat) (hj : j < 4) : w.cell? ⟨b, o + k * 4 + j, none⟩ = some ((tyc (l.getD k ty0)).getD j undef) := by
  obtain ⟨b', o', e, _, hc⟩ := tys_at h (by omega)
  injection e with e
  injection e with e1 e2
  subst e1 e2
  exact hc k hk j hj
theorem sl_drop {w : World} {b o : Nat} {l : List TypeV} (h : Sl w (some ⟨b, o, none⟩) (tys l)) : Sl w (some ⟨b, o + 4, none⟩) (tys (l.drop 1)) := fun hp => by
  cases l with
  | nil => exact absurd hp (by simp [tys])
  | cons f r =>
    have hp' : 0 < (tys (f :: r)).length := by rw [tys_length]; simp
    obtain ⟨b', o', e, hc⟩ := h hp'
    injection e with e
    injection e with e1 e2
    subst e1 e2
    refine ⟨b, o + 4, rfl, fun j hj => ?_⟩
    have hj2 : j < (tys r).length := hj
    have h1 := hc (4 + j) (by rw [tys_length] at hj2 ⊢; simp; omega)
    rw [show o + 4 + j = o + (4 + j) from by omega, h1]
    have e9 : (tys (f :: r)).getD (4 + j) undef = (tys r).getD j undef := by
      rw [List.getD_eq_getElem?_getD, List.getD_eq_getElem?_getD, show tys (f :: r) = tyc f ++ tys r from rfl, List.getElem?_append_right (by show (4 : Nat) ≤ 4 + j; omega)]
      congr 2
      show 4 + j - (tyc f).length = j
      simp [tyc]
    rw [e9]
    rfl
theorem ob_sl {w : World} {g : Nat} {T : TypeId} {cs : List Value} (h : Ob w g T cs) : Sl w (some ⟨g, 0, none⟩) cs := Sl.mk fun j hj => by rw [Nat.zero_add, h.cell, List.getElem?_eq_getElem hj, List.getD_eq_getElem?_getD, List.getElem?_eq_getElem hj]; rfl

set_option maxRecDepth 100000 in
set_option maxHeartbeats 16000000 in
theorem fits_walk (w : World) (h : Int) (mk ml mh mm : Int) (ht : Tab w) :
    Calls Tryd.prog 5 #[.int .i64 h, .agg #[.int .i64 mk, .int .u64 ml, .int .u64 mh, .int .i64 mm]] w fun e w' => e = .returned (.bool true) ∧ Below w.heap.size w w' := by
  have HT0 : Hid (Tab (w.alloc (.cells #[.int .i64 mk, .int .u64 ml, .int .u64 mh, .int .i64 mm] 31))) := Lib.hid (ht.below (below_alloc (Below.refl _ _) _))
  have O0 := Lib.hid (Ob.fresh w 31 [.int .i64 mk, .int .u64 ml, .int .u64 mh, .int .i64 mm])
  have B0 := Lib.hid (below_alloc (Below.refl w.heap.size w) (.cells #[.int .i64 mk, .int .u64 ml, .int .u64 mh, .int .i64 mm] 31))
  clear ht
  obtain ⟨i0, hi0, hz0, hz1, hz2⟩ := info_parts type_info
  go_enter Tryd.func5, Tryd.ntmps5
  go_upto_region 1 with fail
  generalize w.alloc (.cells #[.int .i64 mk, .int .u64 ml, .int .u64 mh, .int .i64 mm] 31) = w0 at HT0 O0 B0 ⊢
  obtain ⟨p, hp⟩ : ∃ p, w.heap.size = p := ⟨_, rfl⟩
  rw [hp] at O0 ⊢
  have HP := Lib.hid hp
  clear hp
  go_wp2_with fail
  refine (awake_any w0 HT0.out).mono ?_
  rintro e w1 ⟨rfl, b1⟩
  have T1 := Lib.hid (HT0.out.below b1)
  have O1 := Lib.hid (O0.out.below b1 O0.out.lt)
  have B1 := Lib.hid (B0.out.trans (b1.mono B0.out.size))
  clear b1 HT0 O0 B0
  go_wp2_with fail
  refine (args_any w1 h T1.out).mono ?_
  rintro e w2 ⟨va, rfl, hown, b2⟩
  have T2 := Lib.hid (T1.out.below b2)
  have O2 := Lib.hid (O1.out.below b2 O1.out.lt)
  have B2 := Lib.hid (B1.out.trans (b2.mono B1.out.size))
  obtain ⟨A, c, rfl, hcap, _, hsl, _⟩ := own_form hown
  have SA := Lib.hid hsl
  clear b2 T1 O1 B1 hown hsl
  rcases h_cases h with ⟨y, rfl, hy⟩ | hh
  · rw [hI_nat hy] at SA ⊢
    have HIY := Lib.hid (hI_nat hy)
    obtain ⟨hpos, hgood, had, hfd1, hfd2⟩ := argsL_facts y hy
    have HGOOD := Lib.hid hgood
    have HAD := Lib.hid had
    have HF1 := Lib.hid hfd1
    have HF2 := Lib.hid hfd2
    have hm3 := argsL_len y
    obtain ⟨m, hmm⟩ : ∃ m, (argsL y).length = m := ⟨_, rfl⟩
    rw [hI_nat hy, hmm] at hcap
    rw [hmm] at hpos hm3 ⊢
    have HM := Lib.hid hmm
    clear hmm hgood had hfd1 hfd2
    obtain ⟨b, o, rfl, hbl, hcc⟩ := tys_at SA.out (by rw [HM.out]; exact hpos)
    have HCC := Lib.hid hcc
    clear hcc
    have hm0 : ((m : Int) == 0) = false := by simp; omega
    have HC0 := Lib.hid (show ckOf (y : Int) (argsL y) = 0 by unfold ckOf; rw [HIY.out, if_pos hy, if_pos rfl]; exact ckL_self _ fun t ht => (HGOOD.out t ht).1)
    have HC1 := Lib.hid (show ckOf (y : Int) (argsL y ++ [⟨mk, ml, mh, mm⟩]) = 2 by unfold ckOf; rw [HIY.out, if_pos hy, if_neg (by simp)])
    have HC2 := Lib.hid (show ckOf (y : Int) ((argsL y).drop 1) = 2 by unfold ckOf; rw [HIY.out, if_pos hy, if_neg (by rw [List.length_drop, HM.out]; omega)])
    have HY := Lib.hid hy
    clear hy
    go_wp2_with fail
    refine (name_any w2 y T2.out).mono ?_
    rintro e w3 ⟨rfl, b3⟩
    rw [HIY.out]
    have T3 := Lib.hid (T2.out.below b3)
    have O3 := Lib.hid (O2.out.below b3 O2.out.lt)
    have B3 := Lib.hid (B2.out.trans (b3.mono B2.out.size))
    have S3 := Lib.hid (Sl.below SA.out b3)
    clear b3
    go_wp2_with fail
    refine (find_any w3 (nmB y) T3.out).mono ?_
    rintro e w4 ⟨rfl, b4⟩
    rw [HF1.out, HF2.out]
    have T4 := Lib.hid (T3.out.below b4)
    have O4 := Lib.hid (O3.out.below b4 O3.out.lt)
    have B4 := Lib.hid (B3.out.trans (b4.mono B3.out.size))
    have S4 := Lib.hid (Sl.below S3.out b4)
    clear b4 T3 O3 S3 B3
    go_upto_region 7 with fail
    have m0 : w4.cell? ⟨p, 0, none⟩ = some (.int .i64 mk) := O4.out.cell 0
    have m1 : w4.cell? ⟨p, 1, none⟩ = some (.int .u64 ml) := O4.out.cell 1
    have m2 : w4.cell? ⟨p, 2, none⟩ = some (.int .u64 mh) := O4.out.cell 2
    have m3 : w4.cell? ⟨p, 3, none⟩ = some (.int .i64 mm) := O4.out.cell 3
    go_cut [65] (fun s65 wx => s65 = .bool false ∧ Below w4.heap.size w4 wx)
    case first =>
      have m0 : w4.cell? ⟨p, 0, none⟩ = some (.int .i64 mk) := O4.out.cell 0
      have m1 : w4.cell? ⟨p, 1, none⟩ = some (.int .u64 ml) := O4.out.cell 1
      have m2 : w4.cell? ⟨p, 2, none⟩ = some (.int .u64 mh) := O4.out.cell 2
      have m3 : w4.cell? ⟨p, 3, none⟩ = some (.int .i64 mm) := O4.out.cell 3
      by_cases hc1 : c = 1
      · have hm1 : m = 1 := by omega
        subst hc1
        subst hm1
        have HSD : Hid (∀ (W : World) (Q : Option Addr), Sl W Q (tys ((argsL y).drop 1))) := Lib.hid fun W Q => by rw [List.drop_of_length_le (by rw [HM.out]; omega)]; exact Sl.nil _ _
        go_region_held3 (fun w' => w'.cell? ⟨p, 0, none⟩ = some (.int .i64 mk) ∧ w'.cell? ⟨p, 1, none⟩ = some (.int .u64 ml) ∧ w'.cell? ⟨p, 2, none⟩ = some (.int .u64 mh) ∧ w'.cell? ⟨p, 3, none⟩ = some (.int .i64 mm)) (go_keep)
          (first
           | (go_at_call 12
              have hthere := BB.out
              clear hthere
              refine (check_any wF y ((argsL y).drop 1) _ _ _ (by rw [List.length_drop, HM.out]) (by omega) (T5.out.below BF.out) (HSD.out _ _)).mono ?_
              rintro e wG ⟨rfl, bG⟩
              rw [HC2.out]
              have BG := Lib.hid (BF.out.trans (bG.mono BF.out.size))
              have OG := Lib.hid (O5.out.below BG.out O5.out.lt)
              have j0 : wG.cell? ⟨p, 0, none⟩ = some (.int .i64 mk) := OG.out.cell 0
              have j1 : wG.cell? ⟨p, 1, none⟩ = some (.int .u64 ml) := OG.out.cell 1
              have j2 : wG.cell? ⟨p, 2, none⟩ = some (.int .u64 mh) := OG.out.cell 2
              have j3 : wG.cell? ⟨p, 3, none⟩ = some (.int .i64 mm) := OG.out.cell 3
              clear bG)
           | (go_at_call 12
              have hthere := R46.out
              clear hthere
              refine (check_any wB y (argsL y ++ [⟨mk, ml, mh, mm⟩]) A46 _ c46 (by rw [List.length_append, HM.out]; rfl) (by omega) (T5.out.below DB.out) SB.out).mono ?_
              rintro e wF ⟨rfl, bF⟩
              rw [HC1.out]
              have BB := Lib.hid True.intro
              have BF := Lib.hid (DB.out.trans (bF.mono DB.out.size))
              have OF := Lib.hid (O5.out.below BF.out O5.out.lt)
              have k0 : wF.cell? ⟨p, 0, none⟩ = some (.int .i64 mk) := OF.out.cell 0
              have k1 : wF.cell? ⟨p, 1, none⟩ = some (.int .u64 ml) := OF.out.cell 1
              have k2 : wF.cell? ⟨p, 2, none⟩ = some (.int .u64 mh) := OF.out.cell 2
              have k3 : wF.cell? ⟨p, 3, none⟩ = some (.int .i64 mm) := OF.out.cell 3
              clear bF)
           | (go_at_call 12
              refine (check_any w4.drew y (argsL y) (some ⟨b, o, none⟩) 1 1 HM.out.symm (by omega) (T4.out.below (below_drewN (Below.refl _ _) 1)) (Sl.below S4.out (below_drewN (Below.refl _ _) 1))).mono ?_
              rintro e w5 ⟨rfl, b5⟩
              rw [HC0.out]
              have bd5 : Below w4.heap.size w4 w5 := (below_drewN (Below.refl w4.heap.size w4) 1).trans b5
              have T5 := Lib.hid (T4.out.below bd5)
              have O5 := Lib.hid (O4.out.below bd5 O4.out.lt)
              have B5 := Lib.hid (B4.out.trans (bd5.mono B4.out.size))
              have S5 := Lib.hid (Sl.below S4.out bd5)
              have D5 := Lib.hid bd5
              have n0 : w5.cell? ⟨p, 0, none⟩ = some (.int .i64 mk) := O5.out.cell 0
              have n1 : w5.cell? ⟨p, 1, none⟩ = some (.int .u64 ml) := O5.out.cell 1
              have n2 : w5.cell? ⟨p, 2, none⟩ = some (.int .u64 mh) := O5.out.cell 2
              have n3 : w5.cell? ⟨p, 3, none⟩ = some (.int .i64 mm) := O5.out.cell 3
              clear b5 bd5)
           | (rw [if_pos (by rfl)]
              refine wp_append_sl _ (.tmp 41) (.tmp 42) _ rfl w5.heap.size 31 i0 _ 4 32 Tryd.underlying23 hi0 hz0 hz1 hz2 rfl (by omega) (.slice (some ⟨_, 0, none⟩) 0 0) 0 [] rfl (by first | exact own_empty (Below.refl _ _) _ _ | exact World.ownsRow.alloc (own_empty (Below.refl _ _) _ _) _ | (have h := own_empty (w0 := w5) (w := w5.alloc (.cells #[.int .i64 mk, .int .u64 ml, .int .u64 mh, .int .i64 mm] 31)) (below_alloc (Below.refl _ _) _) 31 4; simpa using h))
                (some ⟨b, o, none⟩) 1 1 (tys (argsL y)) rfl (by rw [tys_length, HM.out]) (by first | exact Sl.below S5.out (below_alloc (below_alloc (Below.refl _ _) _) _) | exact Sl.below S5.out (below_alloc (Below.refl _ _) _)) (tys_allone _) (by simp only [maxLen]; omega) (by omega) (by first | exact (below_alloc (below_alloc (Below.refl _ _) _) _).size | exact (below_alloc (Below.refl _ _) _).size) (fun v43 wA hown43 g43 k43 => ?_)
              have DA : Hid (Below w5.heap.size w5 wA) := Lib.hid (Below.grown (by first | exact below_alloc (below_alloc (Below.refl _ _) _) _ | exact below_alloc (Below.refl _ _) _) g43 (by first | exact (below_alloc (below_alloc (Below.refl _ _) _) _).size | exact (below_alloc (Below.refl _ _) _).size) fun j hj => (by have h9 := hj; simp [Value.ownBlock] at h9; omega))
              have G43 := Lib.hid g43
              have hown : wA.ownsRow w5.heap.size 31 4 v43 1 (tys (argsL y)) := by simpa using hown43
              have R43 := Lib.hid hown
              obtain ⟨A43, c43, rfl, _, _, _, _⟩ := own_form hown
              have O43 := Lib.hid (O5.out.below DA.out O5.out.lt)
              have o0 : wA.cell? ⟨p, 0, none⟩ = some (.int .i64 mk) := O43.out.cell 0
              have o1 : wA.cell? ⟨p, 1, none⟩ = some (.int .u64 ml) := O43.out.cell 1
              have o2 : wA.cell? ⟨p, 2, none⟩ = some (.int .u64 mh) := O43.out.cell 2
              have o3 : wA.cell? ⟨p, 3, none⟩ = some (.int .i64 mm) := O43.out.cell 3
              clear hown43 hown g43 k43)
           | (rw [if_pos (by rfl)]
              refine wp_append_sl _ (.tmp 43) (.tmp 45) _ rfl w5.heap.size 31 i0 _ 4 32 Tryd.underlying23 hi0 hz0 hz1 hz2 rfl (by omega) (.slice A43 1 c43) 1 (tys (argsL y)) rfl (by first | exact World.ownsRow.alloc R43.out _ | exact R43.out)
                (some ⟨_, 0, none⟩) 1 1 (tyc ⟨mk, ml, mh, mm⟩) rfl rfl (by first | exact Sl.fresh _ (tyc ⟨mk, ml, mh, mm⟩).toArray _ (0, 0) | exact ob_sl (Ob.grown (show Ob ((w5.alloc (.cells #[] 31)).alloc (.cells #[.int .i64 mk, .int .u64 ml, .int .u64 mh, .int .i64 mm] 31)) (w5.heap.size + 1) 31 [.int .i64 mk, .int .u64 ml, .int .u64 mh, .int .i64 mm] from (by have h := Ob.fresh (w5.alloc (.cells #[] 31)) 31 [.int .i64 mk, .int .u64 ml, .int .u64 mh, .int .i64 mm]; simpa using h)) G43.out (by simp [Value.ownBlock])) | exact ob_sl (Ob.grown (show Ob ((w5.alloc (.cells #[.int .i64 mk, .int .u64 ml, .int .u64 mh, .int .i64 mm] 31)).alloc (.cells #[] 31)) w5.heap.size 31 [.int .i64 mk, .int .u64 ml, .int .u64 mh, .int .i64 mm] from (Ob.fresh w5 31 [.int .i64 mk, .int .u64 ml, .int .u64 mh, .int .i64 mm]).alloc _) G43.out (by simp [Value.ownBlock]))) (tyc_one _) (by simp only [maxLen]; omega) (by omega) (by first | exact (below_alloc DA.out _).size | exact DA.out.size) (fun v46 wB hown46 g46 k46 => ?_)
              have DB : Hid (Below w5.heap.size w5 wB) := Lib.hid (Below.grown (by first | exact DA.out.alloc DA.out.size _ | exact DA.out) g46 (by first | exact (below_alloc DA.out _).size | exact DA.out.size) fun j hj => (World.ownsRow.lt R43.out j hj).1)
              have R46 := Lib.hid True.intro
              obtain ⟨A46, c46, rfl, _, _, hs46, _⟩ := own_form hown46
              have SB : Hid (Sl wB A46 (tys (argsL y ++ [⟨mk, ml, mh, mm⟩]))) := Lib.hid (by rw [tys_app, tys_one]; exact hs46)
              have O46 := Lib.hid (O5.out.below DB.out O5.out.lt)
              have q0 : wB.cell? ⟨p, 0, none⟩ = some (.int .i64 mk) := O46.out.cell 0
              have q1 : wB.cell? ⟨p, 1, none⟩ = some (.int .u64 ml) := O46.out.cell 1
              have q2 : wB.cell? ⟨p, 2, none⟩ = some (.int .u64 mh) := O46.out.cell 2
              have q3 : wB.cell? ⟨p, 3, none⟩ = some (.int .i64 mm) := O46.out.cell 3
              clear hown46 g46 k46 hs46))
        all_goals
          go_wp2_with fail
          go_meet
          exact ⟨rfl, D5.out.trans (BG.out.mono D5.out.size)⟩
      · have hc2 : 2 ≤ c := by omega
        have hm1 : (1 : Int) ≤ (m : Int) := by omega
        have hmc : (m : Int) ≤ (c : Int) := by omega
        have hc3 : (1 : Int) ≤ (c : Int) := by omega
        go_region_held3 (fun w' => w'.cell? ⟨p, 0, none⟩ = some (.int .i64 mk) ∧ w'.cell? ⟨p, 1, none⟩ = some (.int .u64 ml) ∧ w'.cell? ⟨p, 2, none⟩ = some (.int .u64 mh) ∧ w'.cell? ⟨p, 3, none⟩ = some (.int .i64 mm)) (go_keep)
          (first
           | (go_at_call 12
              have hthere := BB.out
              clear hthere
              refine (check_any wF y ((argsL y).drop 1) _ _ _ (by rw [List.length_drop, HM.out]) (by omega) (T5.out.below BF.out) (Sl.below (sl_drop S5.out) BF.out)).mono ?_
              rintro e wG ⟨rfl, bG⟩
              rw [HC2.out]
              have BG := Lib.hid (BF.out.trans (bG.mono BF.out.size))
              have OG := Lib.hid (O5.out.below BG.out O5.out.lt)
              have j0 : wG.cell? ⟨p, 0, none⟩ = some (.int .i64 mk) := OG.out.cell 0
              have j1 : wG.cell? ⟨p, 1, none⟩ = some (.int .u64 ml) := OG.out.cell 1
              have j2 : wG.cell? ⟨p, 2, none⟩ = some (.int .u64 mh) := OG.out.cell 2
              have j3 : wG.cell? ⟨p, 3, none⟩ = some (.int .i64 mm) := OG.out.cell 3
              clear bG)
           | (go_at_call 12
              have hthere := R46.out
              clear hthere
              refine (check_any wB y (argsL y ++ [⟨mk, ml, mh, mm⟩]) A46 _ c46 (by rw [List.length_append, HM.out]; rfl) (by omega) (T5.out.below DB.out) SB.out).mono ?_
              rintro e wF ⟨rfl, bF⟩
              rw [HC1.out]
              have BB := Lib.hid True.intro
              have BF := Lib.hid (DB.out.trans (bF.mono DB.out.size))
              have OF := Lib.hid (O5.out.below BF.out O5.out.lt)
              have k0 : wF.cell? ⟨p, 0, none⟩ = some (.int .i64 mk) := OF.out.cell 0
              have k1 : wF.cell? ⟨p, 1, none⟩ = some (.int .u64 ml) := OF.out.cell 1
              have k2 : wF.cell? ⟨p, 2, none⟩ = some (.int .u64 mh) := OF.out.cell 2
              have k3 : wF.cell? ⟨p, 3, none⟩ = some (.int .i64 mm) := OF.out.cell 3
              clear bF)
           | (go_at_call 12
              refine (check_any w4.drew y (argsL y) (some ⟨b, o, none⟩) m c HM.out.symm (by omega) (T4.out.below (below_drewN (Below.refl _ _) 1)) (Sl.below S4.out (below_drewN (Below.refl _ _) 1))).mono ?_
              rintro e w5 ⟨rfl, b5⟩
              rw [HC0.out]
              have bd5 : Below w4.heap.size w4 w5 := (below_drewN (Below.refl w4.heap.size w4) 1).trans b5
              have T5 := Lib.hid (T4.out.below bd5)
              have O5 := Lib.hid (O4.out.below bd5 O4.out.lt)
              have B5 := Lib.hid (B4.out.trans (bd5.mono B4.out.size))
              have S5 := Lib.hid (Sl.below S4.out bd5)
              have D5 := Lib.hid bd5
              have n0 : w5.cell? ⟨p, 0, none⟩ = some (.int .i64 mk) := O5.out.cell 0
              have n1 : w5.cell? ⟨p, 1, none⟩ = some (.int .u64 ml) := O5.out.cell 1
              have n2 : w5.cell? ⟨p, 2, none⟩ = some (.int .u64 mh) := O5.out.cell 2
              have n3 : w5.cell? ⟨p, 3, none⟩ = some (.int .i64 mm) := O5.out.cell 3
              clear b5 bd5)
           | (rw [if_pos (by rfl)]
              refine wp_append_sl _ (.tmp 41) (.tmp 42) _ rfl w5.heap.size 31 i0 _ 4 32 Tryd.underlying23 hi0 hz0 hz1 hz2 rfl (by omega) (.slice (some ⟨_, 0, none⟩) 0 0) 0 [] rfl (by first | exact own_empty (Below.refl _ _) _ _ | exact World.ownsRow.alloc (own_empty (Below.refl _ _) _ _) _ | (have h := own_empty (w0 := w5) (w := w5.alloc (.cells #[.int .i64 mk, .int .u64 ml, .int .u64 mh, .int .i64 mm] 31)) (below_alloc (Below.refl _ _) _) 31 4; simpa using h))
                (some ⟨b, o, none⟩) m c (tys (argsL y)) rfl (by rw [tys_length, HM.out]) (by first | exact Sl.below S5.out (below_alloc (below_alloc (Below.refl _ _) _) _) | exact Sl.below S5.out (below_alloc (Below.refl _ _) _)) (tys_allone _) (by simp only [maxLen]; omega) (by omega) (by first | exact (below_alloc (below_alloc (Below.refl _ _) _) _).size | exact (below_alloc (Below.refl _ _) _).size) (fun v43 wA hown43 g43 k43 => ?_)
              have DA : Hid (Below w5.heap.size w5 wA) := Lib.hid (Below.grown (by first | exact below_alloc (below_alloc (Below.refl _ _) _) _ | exact below_alloc (Below.refl _ _) _) g43 (by first | exact (below_alloc (below_alloc (Below.refl _ _) _) _).size | exact (below_alloc (Below.refl _ _) _).size) fun j hj => (by have h9 := hj; simp [Value.ownBlock] at h9; omega))
              have G43 := Lib.hid g43
              have hown : wA.ownsRow w5.heap.size 31 4 v43 m (tys (argsL y)) := by simpa using hown43
              have R43 := Lib.hid hown
              obtain ⟨A43, c43, rfl, _, _, _, _⟩ := own_form hown
              have O43 := Lib.hid (O5.out.below DA.out O5.out.lt)
              have o0 : wA.cell? ⟨p, 0, none⟩ = some (.int .i64 mk) := O43.out.cell 0
              have o1 : wA.cell? ⟨p, 1, none⟩ = some (.int .u64 ml) := O43.out.cell 1
              have o2 : wA.cell? ⟨p, 2, none⟩ = some (.int .u64 mh) := O43.out.cell 2
              have o3 : wA.cell? ⟨p, 3, none⟩ = some (.int .i64 mm) := O43.out.cell 3
              clear hown43 hown g43 k43)
           | (rw [if_pos (by rfl)]
              refine wp_append_sl _ (.tmp 43) (.tmp 45) _ rfl w5.heap.size 31 i0 _ 4 32 Tryd.underlying23 hi0 hz0 hz1 hz2 rfl (by omega) (.slice A43 m c43) m (tys (argsL y)) rfl (by first | exact World.ownsRow.alloc R43.out _ | exact R43.out)
                (some ⟨_, 0, none⟩) 1 1 (tyc ⟨mk, ml, mh, mm⟩) rfl rfl (by first | exact Sl.fresh _ (tyc ⟨mk, ml, mh, mm⟩).toArray _ (0, 0) | exact ob_sl (Ob.grown (show Ob ((w5.alloc (.cells #[] 31)).alloc (.cells #[.int .i64 mk, .int .u64 ml, .int .u64 mh, .int .i64 mm] 31)) (w5.heap.size + 1) 31 [.int .i64 mk, .int .u64 ml, .int .u64 mh, .int .i64 mm] from (by have h := Ob.fresh (w5.alloc (.cells #[] 31)) 31 [.int .i64 mk, .int .u64 ml, .int .u64 mh, .int .i64 mm]; simpa using h)) G43.out (by simp [Value.ownBlock])) | exact ob_sl (Ob.grown (show Ob ((w5.alloc (.cells #[.int .i64 mk, .int .u64 ml, .int .u64 mh, .int .i64 mm] 31)).alloc (.cells #[] 31)) w5.heap.size 31 [.int .i64 mk, .int .u64 ml, .int .u64 mh, .int .i64 mm] from (Ob.fresh w5 31 [.int .i64 mk, .int .u64 ml, .int .u64 mh, .int .i64 mm]).alloc _) G43.out (by simp [Value.ownBlock]))) (tyc_one _) (by simp only [maxLen]; omega) (by omega) (by first | exact (below_alloc DA.out _).size | exact DA.out.size) (fun v46 wB hown46 g46 k46 => ?_)
              have DB : Hid (Below w5.heap.size w5 wB) := Lib.hid (Below.grown (by first | exact DA.out.alloc DA.out.size _ | exact DA.out) g46 (by first | exact (below_alloc DA.out _).size | exact DA.out.size) fun j hj => (World.ownsRow.lt R43.out j hj).1)
              have R46 := Lib.hid True.intro
              obtain ⟨A46, c46, rfl, _, _, hs46, _⟩ := own_form hown46
              have SB : Hid (Sl wB A46 (tys (argsL y ++ [⟨mk, ml, mh, mm⟩]))) := Lib.hid (by rw [tys_app, tys_one]; exact hs46)
              have O46 := Lib.hid (O5.out.below DB.out O5.out.lt)
              have q0 : wB.cell? ⟨p, 0, none⟩ = some (.int .i64 mk) := O46.out.cell 0
              have q1 : wB.cell? ⟨p, 1, none⟩ = some (.int .u64 ml) := O46.out.cell 1
              have q2 : wB.cell? ⟨p, 2, none⟩ = some (.int .u64 mh) := O46.out.cell 2
              have q3 : wB.cell? ⟨p, 3, none⟩ = some (.int .i64 mm) := O46.out.cell 3
              clear hown46 g46 k46 hs46))
        all_goals
          go_wp2_with fail
          go_meet
          exact ⟨rfl, D5.out.trans (BG.out.mono D5.out.size)⟩
    case rest =>
      obtain ⟨rfl, hbc⟩ := hcut
      have TC := Lib.hid (T4.out.below hbc)
      have SC := Lib.hid (Sl.below S4.out hbc)
      have BC := Lib.hid (B4.out.trans (hbc.mono B4.out.size))
      clear hbc m0 m1 m2 m3
      go_wp2_with fail
      refine (asks_any wc y TC.out).mono ?_
      rintro e wd ⟨rfl, bd⟩
      rw [HIY.out, HAD.out]
      have TD := Lib.hid (TC.out.below bd)
      have SD := Lib.hid (Sl.below SC.out bd)
      have BD := Lib.hid (BC.out.trans (bd.mono BC.out.size))
      clear bd
      have f0 : wd.cell? ⟨b, o, none⟩ = some (.int .i64 ((argsL y).getD 0 ty0).kind) := (sl_tys SD.out 0 (by rw [HM.out]; exact hpos) 0 (by omega))
      have hm1 : (0 : Int) < (m : Int) := by omega
      generalize asI y = ai
      generalize hk0 : ((argsL y).getD 0 ty0).kind = k0 at f0 ⊢
      clear hk0
      go_wp2_with fail
      go_loopw [10] (fun i wr => ∃ k : Nat, k ≤ m ∧ i = .int .i64 k ∧ Below wd.heap.size wd wr) (fun i _ => m - (intOf i).toNat)
      case atStart => exact ⟨0, Nat.zero_le _, rfl, Below.refl _ _⟩
      case round =>
        obtain ⟨k, hk, rfl, hb⟩ := hrel
        have TR := Lib.hid (TD.out.below hb)
        have SR := Lib.hid (Sl.below SD.out hb)
        have BR := Lib.hid (BD.out.trans (hb.mono BD.out.size))
        have BB := Lib.hid hb
        clear hb f0
        by_cases hlt : k < m
        · have g1 : (k : Int) < (m : Int) := by omega
          have hkl : k < (argsL y).length := by rw [HM.out]; exact hlt
          have HKL := Lib.hid hkl
          have hmem : (argsL y).getD k ty0 ∈ argsL y := by rw [List.getD_eq_getElem?_getD, List.getElem?_eq_getElem hkl]; exact List.getElem_mem hkl
          have hgk := HGOOD.out _ hmem
          obtain ⟨t, hte⟩ : ∃ t, (argsL y).getD k ty0 = t := ⟨_, rfl⟩
          have HTE := Lib.hid hte
          rw [hte] at hgk
          clear hmem hte hkl
          obtain ⟨tk, tl, th, tm⟩ := t
          dsimp only at hgk
          have HGK := Lib.hid hgk
          clear hgk
          have f0 : wr.cell? ⟨b, o + k * 4, none⟩ = some (.int .i64 tk) := by have h := sl_tys SR.out k HKL.out 0 (by omega); rw [HTE.out] at h; exact h
          have f1 : wr.cell? ⟨b, o + k * 4 + 1, none⟩ = some (.int .u64 tl) := by have h := sl_tys SR.out k HKL.out 1 (by omega); rw [HTE.out] at h; exact h
          have f2 : wr.cell? ⟨b, o + k * 4 + 2, none⟩ = some (.int .u64 th) := by have h := sl_tys SR.out k HKL.out 2 (by omega); rw [HTE.out] at h; exact h
          have F0 := Lib.hid f0
          have F1 := Lib.hid f1
          have F2 := Lib.hid f2
          clear f0 f1 f2
          go_wp2_with
            (at_builtin
             refine wpList_append_in _ rfl (.tmp 84) (.tmp 85) _ rfl (w0 := wr) (below_alloc (Below.refl _ _) _) 31 i0 _ 4 32 Tryd.underlying23 hi0 hz0 hz1 hz2 rfl (by omega) (.slice (some ⟨wr.heap.size, 0, none⟩) 0 0) 0 [] rfl (own_empty (Below.refl _ _) _ _)
               (some ⟨b, o, none⟩) m c (tys (argsL y)) rfl (by rw [tys_length, HM.out]) (Sl.below SR.out (below_alloc (Below.refl _ _) _)) (tys_allone _) (by omega) (by omega) ?_
             intro vs ws hown hbs _ _
             have hown2 : ws.ownsRow wr.heap.size 31 4 vs m (tys (argsL y)) := by simpa using hown
             obtain ⟨g, cap, hv, hge, hgl, hob, _, _⟩ := own_head hown2 (by omega)
             have RS := Lib.hid hown2
             have DS := Lib.hid hbs
             have HOB := Lib.hid hob
             have HGE := Lib.hid hge
             subst hv
             clear hown hown2 hbs hob hge)
          have HNE : Hid (b ≠ g) := Lib.hid (fun e => by have h1 := cell_lt F0.out; have h2 := HGE.out; dsimp only at h1; omega)
          have f0 : ws.cell? ⟨b, o + k * 4, none⟩ = some (.int .i64 tk) := (DS.out.cell (cell_lt F0.out)).trans F0.out
          have f1 : ws.cell? ⟨b, o + k * 4 + 1, none⟩ = some (.int .u64 tl) := (DS.out.cell (cell_lt F1.out)).trans F1.out
          have f2 : ws.cell? ⟨b, o + k * 4 + 2, none⟩ = some (.int .u64 th) := (DS.out.cell (cell_lt F2.out)).trans F2.out
          have y0 := own_cells RS.out HOB.out (k * 4) (by omega)
          have y1 := own_cells RS.out HOB.out (k * 4 + 1) (by omega)
          have y2 := own_cells RS.out HOB.out (k * 4 + 2) (by omega)
          have y3 := own_cells RS.out HOB.out (k * 4 + 3) (by omega)
          have z0 : ∀ i, ws.frozen? ⟨g, i, none⟩ = false := own_frozen RS.out HOB.out
          have G0 := Lib.hid f0
          have G1 := Lib.hid f1
          have G2 := Lib.hid f2
          generalize (tys (argsL y)).getD (k * 4) undef = v0 at y0
          generalize (tys (argsL y)).getD (k * 4 + 1) undef = v1 at y1
          generalize (tys (argsL y)).getD (k * 4 + 2) undef = v2 at y2
          generalize (tys (argsL y)).getD (k * 4 + 3) undef = v3 at y3
          rcases HGK.out.2 with hk1 | hk1
          · subst hk1
            go_upto_region 16 with fail
            refine wp_region_held_drew (S := fun w' => w'.cell? ⟨b, o + k * 4, none⟩ = some (.int .i64 1) ∧ w'.cell? ⟨b, o + k * 4 + 1, none⟩ = some (.int .u64 tl) ∧ w'.cell? ⟨b, o + k * 4 + 2, none⟩ = some (.int .u64 th)) (by kernel_rfl) ⟨f0, f1, f2⟩ (fun hHeld => ?_)
            refine wpAnyH_take (i := 0) (v := ?_) rfl (by kernel_rfl) (by kernel_rfl) (by kernel_rfl) (fun _ _ _ h => h) (Or.inl ⟨by rfl, ?_⟩) (by assumption) ?_
            rotate_left
            · (intro w' hSw; (try dsimp only at hSw); go_simp; try with_reducible rfl)
            try simp only [Act.put]
            refine wpAnyH_take (i := 1) (v := ?_) rfl (by kernel_rfl) (by kernel_rfl) (by kernel_rfl) (fun _ _ _ h => h) (Or.inl ⟨by rfl, ?_⟩) (by assumption) ?_
            rotate_left
            · (intro w' hSw; (try dsimp only at hSw); go_simp; try with_reducible rfl)
            try simp only [Act.put]
            refine wpAnyH_take (i := 2) (v := ?_) rfl (by kernel_rfl) (by kernel_rfl) (by kernel_rfl) (fun _ _ _ h => h) (Or.inl ⟨by rfl, ?_⟩) (by assumption) ?_
            rotate_left
            · (intro w' hSw; (try dsimp only at hSw); go_simp; try with_reducible rfl)
            try simp only [Act.put]
            refine wpAnyH_take (i := 3) (v := ?_) rfl (by kernel_rfl) (by kernel_rfl) (by kernel_rfl) (fun _ _ _ h => h) (Or.inl ⟨by rfl, ?_⟩) (by assumption) ?_
            rotate_left
            · (intro w' hSw; (try dsimp only at hSw); go_simp; try with_reducible rfl)
            try simp only [Act.put]
            refine wpAnyH_take (i := 4) (v := ?_) rfl (by kernel_rfl) (by kernel_rfl) (by kernel_rfl) (fun _ _ _ h => h) (Or.inl ⟨by rfl, ?_⟩) (by assumption) ?_
            rotate_left
            · (intro w' hSw; (try dsimp only at hSw); go_simp; try with_reducible rfl)
            try simp only [Act.put]
            refine wpAnyH_take (i := 5) (v := ?_) rfl (by kernel_rfl) (by kernel_rfl) (by kernel_rfl) (fun _ _ _ h => h) (Or.inl ⟨by rfl, ?_⟩) (by assumption) ?_
            rotate_left
            · (intro w' hSw; (try dsimp only at hSw); go_simp; try with_reducible rfl)
            try simp only [Act.put]
            refine wpAnyH_take (i := 6) (v := ?_) rfl (by kernel_rfl) (by kernel_rfl) (by kernel_rfl) (fun _ _ _ h => h) (Or.inl ⟨by rfl, ?_⟩) (by assumption) ?_
            rotate_left
            · (intro w' hSw; (try dsimp only at hSw); go_simp; try with_reducible rfl)
            try simp only [Act.put]
            refine wpAnyH_take (i := 7) (v := ?_) rfl (by kernel_rfl) (by kernel_rfl) (by kernel_rfl) (fun _ _ _ h => h) (Or.inl ⟨by rfl, ?_⟩) (by assumption) ?_
            rotate_left
            · (intro w' hSw; (try dsimp only at hSw); go_simp; try with_reducible rfl)
            try simp only [Act.put]
            refine wpAnyH_take (i := 8) (v := ?_) rfl (by kernel_rfl) (by kernel_rfl) (by kernel_rfl) (fun _ _ _ h => h) (Or.inl ⟨by rfl, ?_⟩) (by assumption) ?_
            rotate_left
            · (intro w' hSw; (try dsimp only at hSw); go_simp; try with_reducible rfl)
            try simp only [Act.put]
            refine wpAnyH_take (i := 9) (v := ?_) rfl (by kernel_rfl) (by kernel_rfl) (by kernel_rfl) (fun _ _ _ h => h) (Or.inl ⟨by rfl, ?_⟩) (by assumption) ?_
            rotate_left
            · (intro w' hSw; (try dsimp only at hSw); go_simp; try with_reducible rfl)
            try simp only [Act.put]
            refine wpAnyH_take (i := 10) (v := ?_) rfl (by kernel_rfl) (by kernel_rfl) (by kernel_rfl) (fun _ _ _ h => h) (Or.inl ⟨by rfl, ?_⟩) (by assumption) ?_
            rotate_left
            · (intro w' hSw; (try dsimp only at hSw); go_simp; try with_reducible rfl)
            try simp only [Act.put]
            refine wpAnyH_take (i := 11) (v := ?_) rfl (by kernel_rfl) (by kernel_rfl) (by kernel_rfl) (fun _ _ _ h => h) (Or.inl ⟨by rfl, ?_⟩) (by assumption) ?_
            rotate_left
            · (intro w' hSw; (try dsimp only at hSw); go_simp; try with_reducible rfl)
            try simp only [Act.put]
            refine wpAnyH_take (i := 12) (v := ?_) rfl (by kernel_rfl) (by kernel_rfl) (by kernel_rfl) (fun _ _ _ h => h) (Or.inl ⟨by rfl, ?_⟩) (by assumption) ?_
            rotate_left
            · (intro w' hSw; (try dsimp only at hSw); go_simp; try with_reducible rfl)
            try simp only [Act.put]
            refine wpAnyH_take (i := 13) (v := ?_) rfl (by kernel_rfl) (by kernel_rfl) (by kernel_rfl) (fun _ _ _ h => h) (Or.inl ⟨by rfl, ?_⟩) (by assumption) ?_
            rotate_left
            · (intro w' hSw; (try dsimp only at hSw); go_simp; try with_reducible rfl)
            try simp only [Act.put]
            refine wpAnyH_take (i := 14) (v := ?_) rfl (by kernel_rfl) (by kernel_rfl) (by kernel_rfl) (fun _ _ _ h => h) (Or.inl ⟨by rfl, ?_⟩) (by assumption) ?_
            rotate_left
            · (intro w' hSw; (try dsimp only at hSw); go_simp; try with_reducible rfl)
            try simp only [Act.put]
            refine wpAnyH_ready (rs := [15]) (by kernel_rfl) (by simp) ?_
            refine AllReadyH.cons rfl (fun K' hK => ?_) AllReadyH.nil
            go_simp
            refine hK.out _ _ ⟨(far4 HNE.out).trans G0.out, (far4 HNE.out).trans G1.out, (far4 HNE.out).trans G2.out⟩ (fun hHeld => ?_)
            clear hK K'
            try simp only [Act.put]
            refine wpAnyH_done (by kernel_rfl) ?_ _
            clear hHeld
            clear hHeld
            have RT : Hid (((((ws.setCell ⟨g, k * 4, none⟩ (.int .i64 (IntKind.i64.wrap 2))).setCell ⟨g, k * 4 + 1, none⟩ (.int .u64 tl)).setCell ⟨g, k * 4 + 2, none⟩ (.int .u64 th)).setCell ⟨g, k * 4 + 3, none⟩ (.int .i64 2)).drew.ownsRow wr.heap.size 31 4 (.slice (some ⟨g, 0, none⟩) m cap) m (tys ((argsL y).set k ⟨IntKind.i64.wrap 2, tl, th, 2⟩))) := Lib.hid (by
              rw [← tys_set _ _ _ HKL.out]
              exact own_set (own_set (own_set (own_set RS.out HOB.out (by omega) _) HOB.out (by omega) _) HOB.out (by omega) _) HOB.out (by omega) _)
            have DT : Hid (Below wr.heap.size wr ((((ws.setCell ⟨g, k * 4, none⟩ (.int .i64 (IntKind.i64.wrap 2))).setCell ⟨g, k * 4 + 1, none⟩ (.int .u64 tl)).setCell ⟨g, k * 4 + 2, none⟩ (.int .u64 th)).setCell ⟨g, k * 4 + 3, none⟩ (.int .i64 2)).drew) := Lib.hid (below_drewN ((((DS.out.setCell HGE.out _).setCell HGE.out _).setCell HGE.out _).setCell HGE.out _) 1)
            generalize ((((ws.setCell ⟨g, k * 4, none⟩ (.int .i64 (IntKind.i64.wrap 2))).setCell ⟨g, k * 4 + 1, none⟩ (.int .u64 tl)).setCell ⟨g, k * 4 + 2, none⟩ (.int .u64 th)).setCell ⟨g, k * 4 + 3, none⟩ (.int .i64 2)).drew = wt at RT DT ⊢
            clear f0 f1 f2 y0 y1 y2 y3 z0
            have HK1 := Lib.hid (show ckOf (y : Int) ((argsL y).set k ⟨IntKind.i64.wrap 2, tl, th, 2⟩) = 33 by
              unfold ckOf
              rw [HIY.out, if_pos HY.out, if_pos (by rw [List.length_set])]
              exact ckL_set _ _ _ (fun t ht => (HGOOD.out t ht).1) HKL.out (by rw [HTE.out]; show IntKind.i64.wrap 2 ≠ 1; decide))
            have HK2 := Lib.hid (show ckOf (y : Int) ((argsL y).set k ty0) = 33 by
              unfold ckOf
              rw [HIY.out, if_pos HY.out, if_pos (by rw [List.length_set])]
              exact ckL_set _ _ _ (fun t ht => (HGOOD.out t ht).1) HKL.out (by rw [HTE.out]; show (0 : Int) ≠ 1; decide))
            go_wp2_with fail
            refine (check_any wt y ((argsL y).set k ⟨IntKind.i64.wrap 2, tl, th, 2⟩) (some ⟨g, 0, none⟩) m cap (by rw [List.length_set, HM.out]) (by omega) (TR.out.below DT.out) (own_sl RT.out)).mono ?_
            rintro e wu ⟨rfl, bu⟩
            rw [HK1.out]
            have RU := Lib.hid (own_tch (S := fun _ => False) RT.out (Tch.of_below bu) fun _ _ => id)
            have DU := Lib.hid (DT.out.trans (bu.mono DT.out.size))
            clear bu RT DT
            have y0 := own_cells RU.out HOB.out (k * 4) (by omega)
            have y1 := own_cells RU.out HOB.out (k * 4 + 1) (by omega)
            have y2 := own_cells RU.out HOB.out (k * 4 + 2) (by omega)
            have y3 := own_cells RU.out HOB.out (k * 4 + 3) (by omega)
            have z0 : ∀ i, wu.frozen? ⟨g, i, none⟩ = false := own_frozen RU.out HOB.out
            generalize (tys ((argsL y).set k ⟨IntKind.i64.wrap 2, tl, th, 2⟩)).getD (k * 4) undef = q0 at y0
            generalize (tys ((argsL y).set k ⟨IntKind.i64.wrap 2, tl, th, 2⟩)).getD (k * 4 + 1) undef = q1 at y1
            generalize (tys ((argsL y).set k ⟨IntKind.i64.wrap 2, tl, th, 2⟩)).getD (k * 4 + 2) undef = q2 at y2
            generalize (tys ((argsL y).set k ⟨IntKind.i64.wrap 2, tl, th, 2⟩)).getD (k * 4 + 3) undef = q3 at y3
            go_upto_region 20 with fail
            have RV : Hid (((((wu.setCell ⟨g, k * 4, none⟩ (.int .i64 0)).setCell ⟨g, k * 4 + 1, none⟩ (.int .u64 0)).setCell ⟨g, k * 4 + 2, none⟩ (.int .u64 0)).setCell ⟨g, k * 4 + 3, none⟩ (.int .i64 0)).ownsRow wr.heap.size 31 4 (.slice (some ⟨g, 0, none⟩) m cap) m (tys ((argsL y).set k ty0))) := Lib.hid (by
              rw [← List.set_set (l := argsL y) (i := k) (a := ⟨IntKind.i64.wrap 2, tl, th, 2⟩) (b := ty0), ← tys_set _ _ _ (by rw [List.length_set]; exact HKL.out)]
              exact own_set (own_set (own_set (own_set RU.out HOB.out (by omega) _) HOB.out (by omega) _) HOB.out (by omega) _) HOB.out (by omega) _)
            have DV : Hid (Below wr.heap.size wr ((((wu.setCell ⟨g, k * 4, none⟩ (.int .i64 0)).setCell ⟨g, k * 4 + 1, none⟩ (.int .u64 0)).setCell ⟨g, k * 4 + 2, none⟩ (.int .u64 0)).setCell ⟨g, k * 4 + 3, none⟩ (.int .i64 0))) := Lib.hid ((((DU.out.setCell HGE.out _).setCell HGE.out _).setCell HGE.out _).setCell HGE.out _)
            generalize (((wu.setCell ⟨g, k * 4, none⟩ (.int .i64 0)).setCell ⟨g, k * 4 + 1, none⟩ (.int .u64 0)).setCell ⟨g, k * 4 + 2, none⟩ (.int .u64 0)).setCell ⟨g, k * 4 + 3, none⟩ (.int .i64 0) = wv at RV DV ⊢
            clear y0 y1 y2 y3 z0
            go_wp2_with fail
            refine (check_any wv y ((argsL y).set k ty0) (some ⟨g, 0, none⟩) m cap (by rw [List.length_set, HM.out]) (by omega) (TR.out.below DV.out) (own_sl RV.out)).mono ?_
            rintro e wx ⟨rfl, bx⟩
            rw [HK2.out]
            have DX := Lib.hid (DV.out.trans (bx.mono DV.out.size))
            clear bx
            go_wp2_with fail
            go_roundw
            case rel => exact ⟨k + 1, by omega, by go_num, BB.out.trans (DX.out.mono BB.out.size)⟩
            case measure => simp [intOf]; omega
          · subst hk1
            go_upto_region 16 with fail
            refine wp_region_held_drew (S := fun w' => w'.cell? ⟨b, o + k * 4, none⟩ = some (.int .i64 2) ∧ w'.cell? ⟨b, o + k * 4 + 1, none⟩ = some (.int .u64 tl) ∧ w'.cell? ⟨b, o + k * 4 + 2, none⟩ = some (.int .u64 th)) (by kernel_rfl) ⟨f0, f1, f2⟩ (fun hHeld => ?_)
            refine wpAnyH_take (i := 0) (v := ?_) rfl (by kernel_rfl) (by kernel_rfl) (by kernel_rfl) (fun _ _ _ h => h) (Or.inl ⟨by rfl, ?_⟩) (by assumption) ?_
            rotate_left
            · (intro w' hSw; (try dsimp only at hSw); go_simp; try with_reducible rfl)
            try simp only [Act.put]
            refine wpAnyH_take (i := 1) (v := ?_) rfl (by kernel_rfl) (by kernel_rfl) (by kernel_rfl) (fun _ _ _ h => h) (Or.inl ⟨by rfl, ?_⟩) (by assumption) ?_
            rotate_left
            · (intro w' hSw; (try dsimp only at hSw); go_simp; try with_reducible rfl)
            try simp only [Act.put]
            refine wpAnyH_take (i := 2) (v := ?_) rfl (by kernel_rfl) (by kernel_rfl) (by kernel_rfl) (fun _ _ _ h => h) (Or.inl ⟨by rfl, ?_⟩) (by assumption) ?_
            rotate_left
            · (intro w' hSw; (try dsimp only at hSw); go_simp; try with_reducible rfl)
            try simp only [Act.put]
            refine wpAnyH_take (i := 3) (v := ?_) rfl (by kernel_rfl) (by kernel_rfl) (by kernel_rfl) (fun _ _ _ h => h) (Or.inl ⟨by rfl, ?_⟩) (by assumption) ?_
            rotate_left
            · (intro w' hSw; (try dsimp only at hSw); go_simp; try with_reducible rfl)
            try simp only [Act.put]
            refine wpAnyH_take (i := 4) (v := ?_) rfl (by kernel_rfl) (by kernel_rfl) (by kernel_rfl) (fun _ _ _ h => h) (Or.inl ⟨by rfl, ?_⟩) (by assumption) ?_
            rotate_left
            · (intro w' hSw; (try dsimp only at hSw); go_simp; try with_reducible rfl)
            try simp only [Act.put]
            refine wpAnyH_take (i := 5) (v := ?_) rfl (by kernel_rfl) (by kernel_rfl) (by kernel_rfl) (fun _ _ _ h => h) (Or.inl ⟨by rfl, ?_⟩) (by assumption) ?_
            rotate_left
            · (intro w' hSw; (try dsimp only at hSw); go_simp; try with_reducible rfl)
            try simp only [Act.put]
            refine wpAnyH_take (i := 6) (v := ?_) rfl (by kernel_rfl) (by kernel_rfl) (by kernel_rfl) (fun _ _ _ h => h) (Or.inl ⟨by rfl, ?_⟩) (by assumption) ?_
            rotate_left
            · (intro w' hSw; (try dsimp only at hSw); go_simp; try with_reducible rfl)
            try simp only [Act.put]
            refine wpAnyH_take (i := 7) (v := ?_) rfl (by kernel_rfl) (by kernel_rfl) (by kernel_rfl) (fun _ _ _ h => h) (Or.inl ⟨by rfl, ?_⟩) (by assumption) ?_
            rotate_left
            · (intro w' hSw; (try dsimp only at hSw); go_simp; try with_reducible rfl)
            try simp only [Act.put]
            refine wpAnyH_take (i := 8) (v := ?_) rfl (by kernel_rfl) (by kernel_rfl) (by kernel_rfl) (fun _ _ _ h => h) (Or.inl ⟨by rfl, ?_⟩) (by assumption) ?_
            rotate_left
            · (intro w' hSw; (try dsimp only at hSw); go_simp; try with_reducible rfl)
            try simp only [Act.put]
            refine wpAnyH_take (i := 9) (v := ?_) rfl (by kernel_rfl) (by kernel_rfl) (by kernel_rfl) (fun _ _ _ h => h) (Or.inl ⟨by rfl, ?_⟩) (by assumption) ?_
            rotate_left
            · (intro w' hSw; (try dsimp only at hSw); go_simp; try with_reducible rfl)
            try simp only [Act.put]
            refine wpAnyH_take (i := 10) (v := ?_) rfl (by kernel_rfl) (by kernel_rfl) (by kernel_rfl) (fun _ _ _ h => h) (Or.inl ⟨by rfl, ?_⟩) (by assumption) ?_
            rotate_left
            · (intro w' hSw; (try dsimp only at hSw); go_simp; try with_reducible rfl)
            try simp only [Act.put]
            refine wpAnyH_take (i := 11) (v := ?_) rfl (by kernel_rfl) (by kernel_rfl) (by kernel_rfl) (fun _ _ _ h => h) (Or.inl ⟨by rfl, ?_⟩) (by assumption) ?_
            rotate_left
            · (intro w' hSw; (try dsimp only at hSw); go_simp; try with_reducible rfl)
            try simp only [Act.put]
            refine wpAnyH_take (i := 12) (v := ?_) rfl (by kernel_rfl) (by kernel_rfl) (by kernel_rfl) (fun _ _ _ h => h) (Or.inl ⟨by rfl, ?_⟩) (by assumption) ?_
            rotate_left
            · (intro w' hSw; (try dsimp only at hSw); go_simp; try with_reducible rfl)
            try simp only [Act.put]
            refine wpAnyH_take (i := 13) (v := ?_) rfl (by kernel_rfl) (by kernel_rfl) (by kernel_rfl) (fun _ _ _ h => h) (Or.inl ⟨by rfl, ?_⟩) (by assumption) ?_
            rotate_left
            · (intro w' hSw; (try dsimp only at hSw); go_simp; try with_reducible rfl)
            try simp only [Act.put]
            refine wpAnyH_take (i := 14) (v := ?_) rfl (by kernel_rfl) (by kernel_rfl) (by kernel_rfl) (fun _ _ _ h => h) (Or.inl ⟨by rfl, ?_⟩) (by assumption) ?_
            rotate_left
            · (intro w' hSw; (try dsimp only at hSw); go_simp; try with_reducible rfl)
            try simp only [Act.put]
            refine wpAnyH_ready (rs := [15]) (by kernel_rfl) (by simp) ?_
            refine AllReadyH.cons rfl (fun K' hK => ?_) AllReadyH.nil
            go_simp
            refine hK.out _ _ ⟨(far4 HNE.out).trans G0.out, (far4 HNE.out).trans G1.out, (far4 HNE.out).trans G2.out⟩ (fun hHeld => ?_)
            clear hK K'
            try simp only [Act.put]
            refine wpAnyH_done (by kernel_rfl) ?_ _
            clear hHeld
            clear hHeld
            have RT : Hid (((((ws.setCell ⟨g, k * 4, none⟩ (.int .i64 (IntKind.i64.wrap 1))).setCell ⟨g, k * 4 + 1, none⟩ (.int .u64 tl)).setCell ⟨g, k * 4 + 2, none⟩ (.int .u64 th)).setCell ⟨g, k * 4 + 3, none⟩ (.int .i64 2)).drew.ownsRow wr.heap.size 31 4 (.slice (some ⟨g, 0, none⟩) m cap) m (tys ((argsL y).set k ⟨IntKind.i64.wrap 1, tl, th, 2⟩))) := Lib.hid (by
              rw [← tys_set _ _ _ HKL.out]
              exact own_set (own_set (own_set (own_set RS.out HOB.out (by omega) _) HOB.out (by omega) _) HOB.out (by omega) _) HOB.out (by omega) _)
            have DT : Hid (Below wr.heap.size wr ((((ws.setCell ⟨g, k * 4, none⟩ (.int .i64 (IntKind.i64.wrap 1))).setCell ⟨g, k * 4 + 1, none⟩ (.int .u64 tl)).setCell ⟨g, k * 4 + 2, none⟩ (.int .u64 th)).setCell ⟨g, k * 4 + 3, none⟩ (.int .i64 2)).drew) := Lib.hid (below_drewN ((((DS.out.setCell HGE.out _).setCell HGE.out _).setCell HGE.out _).setCell HGE.out _) 1)
            generalize ((((ws.setCell ⟨g, k * 4, none⟩ (.int .i64 (IntKind.i64.wrap 1))).setCell ⟨g, k * 4 + 1, none⟩ (.int .u64 tl)).setCell ⟨g, k * 4 + 2, none⟩ (.int .u64 th)).setCell ⟨g, k * 4 + 3, none⟩ (.int .i64 2)).drew = wt at RT DT ⊢
            clear f0 f1 f2 y0 y1 y2 y3 z0
            have HK1 := Lib.hid (show ckOf (y : Int) ((argsL y).set k ⟨IntKind.i64.wrap 1, tl, th, 2⟩) = 33 by
              unfold ckOf
              rw [HIY.out, if_pos HY.out, if_pos (by rw [List.length_set])]
              exact ckL_set _ _ _ (fun t ht => (HGOOD.out t ht).1) HKL.out (by rw [HTE.out]; show IntKind.i64.wrap 1 ≠ 2; decide))
            have HK2 := Lib.hid (show ckOf (y : Int) ((argsL y).set k ty0) = 33 by
              unfold ckOf
              rw [HIY.out, if_pos HY.out, if_pos (by rw [List.length_set])]
              exact ckL_set _ _ _ (fun t ht => (HGOOD.out t ht).1) HKL.out (by rw [HTE.out]; show (0 : Int) ≠ 2; decide))
            go_wp2_with fail
            refine (check_any wt y ((argsL y).set k ⟨IntKind.i64.wrap 1, tl, th, 2⟩) (some ⟨g, 0, none⟩) m cap (by rw [List.length_set, HM.out]) (by omega) (TR.out.below DT.out) (own_sl RT.out)).mono ?_
            rintro e wu ⟨rfl, bu⟩
            rw [HK1.out]
            have RU := Lib.hid (own_tch (S := fun _ => False) RT.out (Tch.of_below bu) fun _ _ => id)
            have DU := Lib.hid (DT.out.trans (bu.mono DT.out.size))
            clear bu RT DT
            have y0 := own_cells RU.out HOB.out (k * 4) (by omega)
            have y1 := own_cells RU.out HOB.out (k * 4 + 1) (by omega)
            have y2 := own_cells RU.out HOB.out (k * 4 + 2) (by omega)
            have y3 := own_cells RU.out HOB.out (k * 4 + 3) (by omega)
            have z0 : ∀ i, wu.frozen? ⟨g, i, none⟩ = false := own_frozen RU.out HOB.out
            generalize (tys ((argsL y).set k ⟨IntKind.i64.wrap 1, tl, th, 2⟩)).getD (k * 4) undef = q0 at y0
            generalize (tys ((argsL y).set k ⟨IntKind.i64.wrap 1, tl, th, 2⟩)).getD (k * 4 + 1) undef = q1 at y1
            generalize (tys ((argsL y).set k ⟨IntKind.i64.wrap 1, tl, th, 2⟩)).getD (k * 4 + 2) undef = q2 at y2
            generalize (tys ((argsL y).set k ⟨IntKind.i64.wrap 1, tl, th, 2⟩)).getD (k * 4 + 3) undef = q3 at y3
            go_upto_region 20 with fail
            have RV : Hid (((((wu.setCell ⟨g, k * 4, none⟩ (.int .i64 0)).setCell ⟨g, k * 4 + 1, none⟩ (.int .u64 0)).setCell ⟨g, k * 4 + 2, none⟩ (.int .u64 0)).setCell ⟨g, k * 4 + 3, none⟩ (.int .i64 0)).ownsRow wr.heap.size 31 4 (.slice (some ⟨g, 0, none⟩) m cap) m (tys ((argsL y).set k ty0))) := Lib.hid (by
              rw [← List.set_set (l := argsL y) (i := k) (a := ⟨IntKind.i64.wrap 1, tl, th, 2⟩) (b := ty0), ← tys_set _ _ _ (by rw [List.length_set]; exact HKL.out)]
              exact own_set (own_set (own_set (own_set RU.out HOB.out (by omega) _) HOB.out (by omega) _) HOB.out (by omega) _) HOB.out (by omega) _)
            have DV : Hid (Below wr.heap.size wr ((((wu.setCell ⟨g, k * 4, none⟩ (.int .i64 0)).setCell ⟨g, k * 4 + 1, none⟩ (.int .u64 0)).setCell ⟨g, k * 4 + 2, none⟩ (.int .u64 0)).setCell ⟨g, k * 4 + 3, none⟩ (.int .i64 0))) := Lib.hid ((((DU.out.setCell HGE.out _).setCell HGE.out _).setCell HGE.out _).setCell HGE.out _)
            generalize (((wu.setCell ⟨g, k * 4, none⟩ (.int .i64 0)).setCell ⟨g, k * 4 + 1, none⟩ (.int .u64 0)).setCell ⟨g, k * 4 + 2, none⟩ (.int .u64 0)).setCell ⟨g, k * 4 + 3, none⟩ (.int .i64 0) = wv at RV DV ⊢
            clear y0 y1 y2 y3 z0
            go_wp2_with fail
            refine (check_any wv y ((argsL y).set k ty0) (some ⟨g, 0, none⟩) m cap (by rw [List.length_set, HM.out]) (by omega) (TR.out.below DV.out) (own_sl RV.out)).mono ?_
            rintro e wx ⟨rfl, bx⟩
            rw [HK2.out]
            have DX := Lib.hid (DV.out.trans (bx.mono DV.out.size))
            clear bx
            go_wp2_with fail
            go_roundw
            case rel => exact ⟨k + 1, by omega, by go_num, BB.out.trans (DX.out.mono BB.out.size)⟩
            case measure => simp [intOf]; omega
        · have g1 : ¬ (k : Int) < (m : Int) := by omega
          go_wp2_with fail
          go_ret
          exact ⟨rfl, BR.out⟩
  · have hh2 : h < 0 ∨ 7 ≤ h := by omega
    have HIY := Lib.hid (hI_out hh2)
    rw [HIY.out] at SA ⊢
    have HA7 := Lib.hid argsL_7
    rw [HA7.out] at SA ⊢
    have HCK := Lib.hid (show ckOf h [⟨mk, ml, mh, mm⟩] = 34 by unfold ckOf; rw [HIY.out, if_neg (by omega)])
    clear hh hh2 hcap
    have m0 : w2.cell? ⟨p, 0, none⟩ = some (.int .i64 mk) := O2.out.cell 0
    have m1 : w2.cell? ⟨p, 1, none⟩ = some (.int .u64 ml) := O2.out.cell 1
    have m2 : w2.cell? ⟨p, 2, none⟩ = some (.int .u64 mh) := O2.out.cell 2
    have m3 : w2.cell? ⟨p, 3, none⟩ = some (.int .i64 mm) := O2.out.cell 3
    have hsl : Sl (w2.alloc (.cells #[.int .i64 mk, .int .u64 ml, .int .u64 mh, .int .i64 mm] 31)) (some ⟨w2.heap.size, 0, none⟩) (tys [⟨mk, ml, mh, mm⟩]) := by rw [tys_one]; exact Sl.fresh w2 #[.int .i64 mk, .int .u64 ml, .int .u64 mh, .int .i64 mm] 31 (0, 0)
    have HSL := Lib.hid hsl
    clear hsl
    go_wp2_with fail
    refine (check_any _ h [⟨mk, ml, mh, mm⟩] _ 1 1 rfl (by omega) (T2.out.below (below_alloc (Below.refl _ _) _)) HSL.out).mono ?_
    rintro e w3 ⟨rfl, b3⟩
    rw [HCK.out]
    have b3' : Below w2.heap.size w2 w3 := (below_alloc (Below.refl _ _) _).trans (b3.mono (by simp))
    have T3 := Lib.hid (T2.out.below b3')
    have B3 := Lib.hid (B2.out.trans (b3'.mono B2.out.size))
    clear b3 b3' HSL m0 m1 m2 m3
    go_wp2_with fail
    refine (name_any w3 h T3.out).mono ?_
    rintro e w4 ⟨rfl, b4⟩
    rw [HIY.out, show nmB 7 = ⟨#[]⟩ from rfl]
    have B4 := Lib.hid (B3.out.trans (b4.mono B3.out.size))
    clear b4
    go_wp2_with fail
    go_ret
    exact ⟨rfl, B4.out⟩

/-- a type that came in -/
def RdType (_ : World) (v : Value) (a : TypeV) : Prop := v = tyVal a
theorem open_type {H : Type} {enc : TypeId × Value → H} {w : World} {base b0 : Nat} {sp : Nat → Bool} {held : Bool} {fuel : Nat} {v : Value} {x : DataW H × List MemPlace}
    (hv : Value.okWide Tryd.prog w .any b0 31 v) (h : DataW.trod enc Tryd.prog w base sp held fuel 31 v.cells.toList = some x) : ∃ a, RdType w v a := by
  obtain ⟨cs, rfl, hcs⟩ := Go.WideShapes.okWide_struct Tryd.underlying31 hv
  obtain ⟨a, ha⟩ := type_cells h
  refine ⟨a, ?_⟩
  unfold RdType tyVal
  congr 1
  exact Array.ext' ha
theorem fits_law (w : World) (ht : Tab w) (h : Int) (_ : (Lit.int .i64 h).wf = true) (a : TypeV) (v : Value) (hr : RdType w v a) :
    Calls Tryd.prog 5 #[.int .i64 h, v] w fun e w' => e = .returned (.bool true) ∧ Below w.heap.size w w' := by
  obtain rfl := hr
  exact fits_walk w h a.kind a.lo a.hi a.mp ht

end Go.Proofs.YthmfenagdoefcaaDoor
