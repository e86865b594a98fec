/-
  The walk of the law ScratchTotals. Conditions: none.
-/
import Derived.Test.YtkgiiahkednpmaaScratchA
import Derived.Test.YtkgiiahkednpmaaOpen
namespace Go.Proofs.Ytkgiiahkednpmaa
open Go.RowKit

attribute [local go_sem] uv_nonneg uv_wrap uv_add uv_sub uv_add1 uv_sub1

theorem new_abs (w : World) :
    Calls Try.prog 8 #[] w fun e w' => ∃ g, e = .returned (.pointer (some ⟨g, 0, none⟩)) ∧ g = w.heap.size ∧ ScrAt w' g zz zz ∧ Below w.heap.size w w' :=
  (new_any w).mono fun e w' ⟨he, hw⟩ => ⟨_, he, rfl, by rw [← hw]; exact ScrAt.fresh w, by rw [← hw]; exact (Below.refl _ _).alloc (Nat.le_refl _) _⟩

/-- three scratches of the call's own, and all that was there before -/
structure St (w0 w : World) (g1 g2 g3 : Nat) (k1 k2 k3 : Nat → BitVec 64) : Prop where
  b1 : ScrAt w g1 zz k1
  b2 : ScrAt w g2 zz k2
  b3 : ScrAt w g3 zz k3
  bel : Below w0.heap.size w0 w
  lo : w0.heap.size ≤ g1
  l12 : g1 < g2
  l23 : g2 < g3

section
variable {w0 w w' : World} {g1 g2 g3 : Nat} {k1 k2 k3 k : Nat → BitVec 64}
theorem St.step1 (h : St w0 w g1 g2 g3 k1 k2 k3) (ho : ScrAt w' g1 zz k) (hn : Only w w' g1) : St w0 w' g1 g2 g3 k k2 k3 :=
  ⟨ho, Ob.only h.b2 hn (by have := h.l12; omega), Ob.only h.b3 hn (by have := h.l12; have := h.l23; omega), Only.below h.bel hn h.bel.size h.lo, h.lo, h.l12, h.l23⟩
theorem St.step2 (h : St w0 w g1 g2 g3 k1 k2 k3) (ho : ScrAt w' g2 zz k) (hn : Only w w' g2) : St w0 w' g1 g2 g3 k1 k k3 :=
  ⟨Ob.only h.b1 hn (by have := h.l12; omega), ho, Ob.only h.b3 hn (by have := h.l23; omega), Only.below h.bel hn h.bel.size (by have := h.lo; have := h.l12; omega), h.lo, h.l12, h.l23⟩
theorem St.step3 (h : St w0 w g1 g2 g3 k1 k2 k3) (ho : ScrAt w' g3 zz k) (hn : Only w w' g3) : St w0 w' g1 g2 g3 k1 k2 k :=
  ⟨Ob.only h.b1 hn (by have := h.l12; have := h.l23; omega), Ob.only h.b2 hn (by have := h.l23; omega), ho, Only.below h.bel hn h.bel.size (by have := h.lo; have := h.l12; have := h.l23; omega), h.lo, h.l12, h.l23⟩
theorem St.below (h : St w0 w g1 g2 g3 k1 k2 k3) (hb : Below w.heap.size w w') : St w0 w' g1 g2 g3 k1 k2 k3 :=
  ⟨Ob.below h.b1 hb (Ob.lt h.b1), Ob.below h.b2 hb (Ob.lt h.b2), Ob.below h.b3 hb (Ob.lt h.b3), h.bel.trans (hb.mono h.bel.size), h.lo, h.l12, h.l23⟩
theorem St.other (h : St w0 w g1 g2 g3 k1 k2 k3) {g : Nat} {cs : List Value} (hc : Ob w g 27 cs) (hg : w0.heap.size ≤ g) (hn : Only w w' g) : St w0 w' g1 g2 g3 k1 k2 k3 :=
  ⟨Ob.only h.b1 hn (Ob.ne_ h.b1 hc (by decide)), Ob.only h.b2 hn (Ob.ne_ h.b2 hc (by decide)), Ob.only h.b3 hn (Ob.ne_ h.b3 hc (by decide)), Only.below h.bel hn h.bel.size hg, h.lo, h.l12, h.l23⟩
end

/-- an argument's slice lies below what the call makes -/
theorem sl_lt {w0 : World} {A : Option Addr} {us : List (BitVec 64)} (h : Sl w0 A (words us)) (hp : 0 < us.length) {p : Addr} (hA : A = some p) : p.block < w0.heap.size := by
  obtain ⟨b, o, rfl, hc⟩ := h.words_at hp
  injection hA with hA
  subst hA
  exact cell_lt (hc 0 hp)

/-- Raise of a scratch of the call's own by an argument -/
theorem raise_arg (g c n : Nat) (A : Option Addr) (ks : Nat → BitVec 64) (ns : List (BitVec 64)) (hn : n = ns.length) (hmax : n ≤ 4611686018427387904) (w0 w : World)
    (hob : ScrAt w g zz ks) (hs : Sl w0 A (words ns)) (hbl : Below w0.heap.size w0 w) (hg : w0.heap.size ≤ g) :
    Calls Try.prog 9 #[.pointer (some ⟨g, 16, none⟩), .slice A n c] w fun e w' => e = .returned (.tuple #[]) ∧ ScrAt w' g zz (raise ks ns) ∧ Only w w' g := by
  by_cases hp : 0 < ns.length
  · refine (raise_any g 16 c n A 34 (arr 16 zz) [] ks ns hn (by rw [arr_length]) w hob (hs.below hbl) (fun p hA => ?_) hmax).mono fun e w' h => h
    have := sl_lt hs hp hA
    omega
  · obtain rfl : ns = [] := List.eq_nil_of_length_eq_zero (by omega)
    subst hn
    refine (raise_none g 16 c A w).mono ?_
    rintro e w' ⟨rfl, rfl⟩
    refine ⟨rfl, ?_, Only.refl _ _⟩
    have e : arr 16 (raise ks []) = arr 16 ks := arr_congr fun j _ => by rw [raise, wordAt_out [] j (by simp), BitVec.add_zero]
    unfold ScrAt
    rw [e]
    exact hob

def bump (f : Nat → BitVec 64) (k : Nat) : Nat → BitVec 64 := fun j => if j < k then f j + 1#64 else f j
theorem bump_zero (f : Nat → BitVec 64) : bump f 0 = f := by funext j; simp [bump]
theorem bump_succ (f : Nat → BitVec 64) (k : Nat) : upd (bump f k) k (bump f k k + 1#64) = bump f (k + 1) := by
  funext j
  by_cases h : j = k
  · subst h; simp [upd, bump]
  · simp only [upd, if_neg h, bump]
    by_cases h2 : j < k
    · rw [if_pos h2, if_pos (by omega)]
    · rw [if_neg h2, if_neg (by omega)]

/-- the totals of the two are those of the one -/
theorem same_totals (g1 g2 g3 : Nat) (us1 us2 us3 : List (BitVec 64)) :
    arr 16 (tot [some (g1, zz, raise (raise zz us1) us3), some (g2, zz, raise zz us2)]) = arr 16 (tot [some (g3, zz, raise (raise (raise zz us3) us2) us1), none]) := by
  refine arr_congr fun j _ => ?_
  simp only [tot, List.foldl_cons, List.foldl_nil, cntOf, raise, zz, BitVec.zero_add, BitVec.add_zero]
  ac_rfl
theorem same_totals' (g1 g2 g3 : Nat) (us1 us2 us3 : List (BitVec 64)) :
    arr 16 (tot [some (g2, zz, raise zz us2), some (g1, zz, raise (raise zz us1) us3)]) = arr 16 (tot [some (g3, zz, raise (raise (raise zz us3) us2) us1), none]) := by
  refine arr_congr fun j _ => ?_
  simp only [tot, List.foldl_cons, List.foldl_nil, cntOf, raise, zz, BitVec.zero_add, BitVec.add_zero]
  ac_rfl

theorem wordAt_range (F : Nat → BitVec 64) (j : Nat) (h : j < 16) : wordAt ((List.range 16).map F) j = F j := by
  rw [wordAt_eq _ _ (by simpa using h)]; simp

/-- numbers, of two blocks known whole -/
theorem numbers_ob (F : Nat → BitVec 64) (g g' t t' c c' : Nat) (r r' : List Value) (w : World) (h : Ob w g t ([] ++ (arr 16 F ++ r))) (h' : Ob w g' t' ([] ++ (arr 16 F ++ r'))) :
    Calls Try.prog 11 #[.slice (some ⟨g, 0, none⟩) 16 c, .slice (some ⟨g', 0, none⟩) 16 c'] w fun e w' => e = .returned (.bool true) ∧ ∃ d, w' = w.drewN d :=
  numbers_true ((List.range 16).map F) g 0 c g' 0 c' 16 (by simp) (by omega) w (fun j hj => by rw [wordAt_range F j hj]; exact h.at_ j hj) (fun j hj => by rw [wordAt_range F j hj]; exact h'.at_ j hj)

theorem St.drewN {w0 w : World} {g1 g2 g3 : Nat} {k1 k2 k3 : Nat → BitVec 64} (h : St w0 w g1 g2 g3 k1 k2 k3) (d : Nat) : St w0 (w.drewN d) g1 g2 g3 k1 k2 k3 :=
  ⟨h.b1, h.b2, h.b3, below_drewN h.bel d, h.lo, h.l12, h.l23⟩

set_option maxRecDepth 100000 in
set_option maxHeartbeats 2000000 in
theorem totals_law (w : World) (us1 : List (BitVec 64)) (v1 : Value) (hr1 : RdWords w v1 us1) (us2 : List (BitVec 64)) (v2 : Value) (hr2 : RdWords w v2 us2) (us3 : List (BitVec 64)) (v3 : Value) (hr3 : RdWords w v3 us3) :
    Calls Try.prog 3 #[v1, v2, v3] w fun e w' => e = .returned (.bool true) ∧ Below w.heap.size w w' := by
  obtain ⟨i0, hi0, hz0, hz1, hz2⟩ := info_parts u64_info
  obtain ⟨⟨A1, c1, rfl, _, hs1⟩, hm1⟩ := hr1
  obtain ⟨⟨A2, c2, rfl, _, hs2⟩, hm2⟩ := hr2
  obtain ⟨⟨A3, c3, rfl, _, hs3⟩, hm3⟩ := hr3
  have HS1 := Lib.hid hs1
  have HS2 := Lib.hid hs2
  have HS3 := Lib.hid hs3
  clear hs1 hs2 hs3
  go_enter Try.func3, Try.ntmps3
  go_wp2_with fail
  refine (awake_any w).mono ?_
  rintro e wa ⟨rfl, hba⟩
  have HBA := Lib.hid hba
  clear hba
  go_wp2_with fail
  refine (new_abs wa).mono ?_
  rintro e wb ⟨g1, rfl, hg1, hx1, hb1⟩
  have HG1 := Lib.hid hg1
  have HX1 := Lib.hid hx1
  have HB1 := Lib.hid hb1
  clear hg1 hx1 hb1
  go_wp2_with fail
  refine (new_abs wb).mono ?_
  rintro e wc ⟨g2, rfl, hg2, hx2, hb2⟩
  have HG2 := Lib.hid hg2
  have HX2 := Lib.hid hx2
  have HB2 := Lib.hid hb2
  clear hg2 hx2 hb2
  go_wp2_with fail
  refine (new_abs wc).mono ?_
  rintro e wd ⟨g3, rfl, hg3, hx3, hb3⟩
  have hst : St w wd g1 g2 g3 zz zz zz := by
    have hl1 := HX1.out.lt
    have hl2 := HX2.out.lt
    have hs12 := HB2.out.size
    refine ⟨Ob.below (Ob.below HX1.out HB2.out hl1) hb3 (by omega), Ob.below HX2.out hb3 hl2, hx3, ?_, ?_, ?_, ?_⟩
    · exact ((HBA.out.trans (HB1.out.mono HBA.out.size)).trans (HB2.out.mono (Nat.le_trans HBA.out.size HB1.out.size))).trans (hb3.mono (Nat.le_trans (Nat.le_trans HBA.out.size HB1.out.size) HB2.out.size))
    · rw [HG1.out]; exact HBA.out.size
    · rw [HG2.out]; exact hl1
    · rw [hg3]; exact hl2
  have HT := Lib.hid hst
  clear hst hg3 hx3 hb3
  go_wp2_with fail
  refine (raise_arg g1 c1 _ A1 zz us1 rfl (by omega) w wd HT.out.b1 HS1.out HT.out.bel HT.out.lo).mono ?_
  rintro e we ⟨rfl, ho, hn⟩
  have HT1 := Lib.hid (HT.out.step1 ho hn)
  clear ho hn
  go_wp2_with fail
  refine (raise_arg g2 c2 _ A2 zz us2 rfl (by omega) w we HT1.out.b2 HS2.out HT1.out.bel (by have := HT1.out.lo; have := HT1.out.l12; omega)).mono ?_
  rintro e wf ⟨rfl, ho, hn⟩
  have HT2 := Lib.hid (HT1.out.step2 ho hn)
  clear ho hn
  go_wp2_with fail
  refine (raise_arg g1 c3 _ A3 _ us3 rfl (by omega) w wf HT2.out.b1 HS3.out HT2.out.bel HT2.out.lo).mono ?_
  rintro e wg ⟨rfl, ho, hn⟩
  have HT3 := Lib.hid (HT2.out.step1 ho hn)
  clear ho hn
  go_wp2_with fail
  refine (raise_arg g3 c3 _ A3 zz us3 rfl (by omega) w wg HT3.out.b3 HS3.out HT3.out.bel (by have := HT1.out.lo; have := HT1.out.l12; have := HT1.out.l23; omega)).mono ?_
  rintro e wh ⟨rfl, ho, hn⟩
  have HT4 := Lib.hid (HT3.out.step3 ho hn)
  clear ho hn
  go_wp2_with fail
  refine (raise_arg g3 c2 _ A2 _ us2 rfl (by omega) w wh HT4.out.b3 HS2.out HT4.out.bel (by have := HT1.out.lo; have := HT1.out.l12; have := HT1.out.l23; omega)).mono ?_
  rintro e wi ⟨rfl, ho, hn⟩
  have HT5 := Lib.hid (HT4.out.step3 ho hn)
  clear ho hn
  go_wp2_with fail
  refine (raise_arg g3 c1 _ A1 _ us1 rfl (by omega) w wi HT5.out.b3 HS1.out HT5.out.bel (by have := HT1.out.lo; have := HT1.out.l12; have := HT1.out.l23; omega)).mono ?_
  rintro e wj ⟨rfl, ho, hn⟩
  have HT6 := Lib.hid (HT5.out.step3 ho hn)
  clear ho hn HT HT1 HT2 HT3 HT4 HT5 HB1 HB2 HX1 HX2 HG1 HG2
  go_wp2_with fail
  refine (totals_new [some (g1, zz, raise (raise zz us1) us3), some (g2, zz, raise zz us2)] wj ?_ _ rfl 2 rfl (by omega)).mono ?_
  · intro x hx
    simp only [List.mem_cons, List.not_mem_nil, or_false] at hx
    rcases hx with rfl | rfl
    · exact HT6.out.b1
    · exact HT6.out.b2
  rintro e wk ⟨vs, rfl, hown, hb⟩
  rw [same_totals g1 g2 g3] at hown
  obtain ⟨gs, caps, rests, hv, hgs, hobs, hnc, hcm, hrl, _⟩ := own_ob hown (by omega)
  have HT7 := Lib.hid (HT6.out.below hb)
  have HOS := Lib.hid hobs
  have HGS := Lib.hid hgs
  have HRL := Lib.hid hrl
  have HHB := Lib.hid hb
  rw [hv]
  clear hown hb hv hobs hgs hrl
  go_wp2_with fail
  refine (totals_new [some (g3, zz, raise (raise (raise zz us3) us2) us1), none] wk ?_ _ rfl 2 rfl (by omega)).mono ?_
  · intro x hx
    simp only [List.mem_cons, List.not_mem_nil, or_false] at hx
    rcases hx with rfl | rfl
    · exact HT7.out.b3
    · trivial
  rintro e wl ⟨vt, rfl, hown, hb⟩
  obtain ⟨gt, capt, restt, hv, hgt, hobt, hnct, hcmt, hrlt, _⟩ := own_ob hown (by omega)
  have HT8 := Lib.hid (HT7.out.below hb)
  have HOS8 := Lib.hid (Ob.below HOS.out hb HOS.out.lt)
  have HOT8 := Lib.hid hobt
  have hne : gs ≠ gt := by have := HOS.out.lt; omega
  have HNE := Lib.hid hne
  rw [hv]
  clear hown hb hv hobt hgt hrlt hne
  have e2 := same_totals' g1 g2 g3 us1 us2 us3
  generalize tot [some (g3, zz, raise (raise (raise zz us3) us2) us1), none] = F at HOS8 HOT8 e2
  have E2 := Lib.hid e2
  clear e2
  go_wp2_with fail
  refine (numbers_ob F gs gt _ _ _ _ rests restt wl HOS8.out HOT8.out).mono ?_
  rintro e w' ⟨rfl, d, rfl⟩
  have HT9 := Lib.hid (HT8.out.drewN d)
  have HOS9 := Lib.hid (HOS8.out.drewN d)
  have HOT9 := Lib.hid (HOT8.out.drewN d)
  clear HT8 HOS8 HOT8 HOS HT7
  generalize wl.drewN d = wm at HT9 HOS9 HOT9 ⊢
  go_wp2_with fail
  go_loopw [12] (fun i wr => ∃ k : Nat, k ≤ 16 ∧ i = .int .i64 k ∧ Ob wr gs 27 ([] ++ (arr 16 (bump F k) ++ rests)) ∧ Only wm wr gs) (fun i _ => 16 - (intOf i).toNat)
  case atStart => exact ⟨0, Nat.zero_le _, rfl, by rw [bump_zero]; exact HOS9.out, Only.refl _ _⟩
  case round =>
    obtain ⟨k, hk, rfl, hob, hon⟩ := hrel
    have HOB := Lib.hid hob
    have HON := Lib.hid hon
    clear hob hon
    by_cases hlt : k < 16
    · have f1 : wr.cell? ⟨gs, k, none⟩ = some (.int .u64 (uv (bump F k k))) := by have h := HOB.out.at_ k hlt; rw [List.length_nil, Nat.zero_add] at h; exact h
      have f2 : wr.frozen? ⟨gs, k, none⟩ = false := HOB.out.frozen _
      go_wp2_with fail
      go_roundw
      case rel =>
        refine ⟨k + 1, by omega, by go_num, ?_, HON.out.setCell rfl _⟩
        have h := HOB.out.put k hlt (bump F k k + 1#64)
        rw [List.length_nil, Nat.zero_add, bump_succ] at h
        exact h
      case measure => simp [intOf]; omega
    · obtain rfl : k = 16 := by omega
      clear hlt hk
      have hownS := ob_own (base := w.heap.size) (xs := arr 16 (bump F 16)) (rest := rests) HOB.out (by have := HT6.out.bel.size; have := HGS.out; omega) (arr_length _ _) hnc hcm HRL.out
      have HT10 := Lib.hid (HT9.out.other HOS9.out (by have := HT6.out.bel.size; have := HGS.out; omega) HON.out)
      have HL : Hid (([.int .u64 (uv 1#64), .int .u64 (uv 2#64)] : List Value).length = 2 * 1) := Lib.hid rfl
      go_wp2_with
        (at_builtin
         refine wpList_append_in _ rfl (.tmp 76) (.tmp 77) _ rfl (below_alloc HT10.out.bel _) 27 i0 _ 1 8 Try.underlying22 hi0 hz0 hz1 hz2 rfl (by omega) (.slice (some ⟨gs, 0, none⟩) 16 caps) 16 _ rfl (hownS.alloc _)
           (some ⟨wr.heap.size, 0, none⟩) 2 2 [.int .u64 1, .int .u64 2] rfl rfl (Sl.fresh wr #[.int .u64 1, .int .u64 2] 27 (0, 0)) (words_one [1#64, 2#64]) (by omega) (by omega) ?_
         intro v5 w5 hown5 hb5 hg5 hat5)
      have hal : Below wr.heap.size wr (wr.alloc (.cells #[.int .u64 1, .int .u64 2] 27)) := (Below.refl _ _).alloc (Nat.le_refl _) _
      have hO5 : Only (wr.alloc (.cells #[.int .u64 1, .int .u64 2] 27)) w5 gs := hg5
      have HT11 := Lib.hid ((HT10.out.below hal).other (HOB.out.alloc (.cells #[.int .u64 1, .int .u64 2] 27)) (by have := HT6.out.bel.size; have := HGS.out; omega) hO5)
      have HOT11 := Lib.hid (Ob.only ((HOT9.out.only HON.out (Ne.symm HNE.out)).alloc (.cells #[.int .u64 1, .int .u64 2] 27)) hO5 (Ne.symm HNE.out))
      obtain ⟨A5, c5, hv5, _⟩ := own_form hown5
      rw [hv5]
      clear hown5 hb5 hg5 hat5 hal hO5 hv5 hownS HT10
      go_wp2_with fail
      refine (totals_new [some (g2, zz, raise zz us2), some (g1, zz, raise (raise zz us1) us3)] w5 ?_ _ rfl 2 rfl (by omega)).mono ?_
      · intro x hx
        simp only [List.mem_cons, List.not_mem_nil, or_false] at hx
        rcases hx with rfl | rfl
        · exact HT11.out.b2
        · exact HT11.out.b1
      rintro e w6 ⟨v6, rfl, hown, hb⟩
      rw [E2.out] at hown
      obtain ⟨g6, cap6, rest6, hv, hg6, hob6, _, _, _, _⟩ := own_ob hown (by omega)
      have HT12 := Lib.hid (HT11.out.below hb)
      have HO6 := Lib.hid hob6
      have HOT12 := Lib.hid (Ob.below HOT11.out hb HOT11.out.lt)
      rw [hv]
      clear hown hb hv hob6 hg6
      go_wp2_with fail
      refine (numbers_ob F g6 gt _ _ _ _ rest6 restt w6 HO6.out HOT12.out).mono ?_
      rintro e w' ⟨rfl, d2, rfl⟩
      go_wp2_with fail
      go_ret
      exact ⟨rfl, below_drewN HT12.out.bel d2⟩

end Go.Proofs.Ytkgiiahkednpmaa
