/-
  The walk of the law StatsMerges. Conditions: none.
-/
import Derived.Test.YtkjffhlnghgkoaaStatsX
namespace Go.Proofs.Ytkjffhlnghgkoaa
open Go.RowKit

attribute [local go_sem] uv_nonneg uv_wrap uv_add uv_sub uv_add1 uv_sub1

theorem OpAt.below {w w' : World} {b o : Nat} {x : OpV} (h : OpAt w b o x) (hb : b < w.heap.size) (hbl : Below w.heap.size w w') : OpAt w' b o x := by
  obtain ⟨h0, h1, h2, h3, h4, h5, h6, h7⟩ := h
  exact ⟨(hbl.cell hb).trans h0, (hbl.cell hb).trans h1, (hbl.cell hb).trans h2, (hbl.cell hb).trans h3, (hbl.cell hb).trans h4, (hbl.cell hb).trans h5, (hbl.cell hb).trans h6, h7⟩
theorem OpOk.below {w w' : World} {x : OpV} (h : OpOk w x) (hbl : Below w.heap.size w w') : OpOk w' x := ⟨h.1, h.2.1, h.2.2.below hbl⟩

/-- a tell that comes within a law's walk: four Stats, one of them told -/
theorem StatAt.tell {w w' : World} {g g' : Nat} {H : Nat → BitVec 64} (h : StatAt w g H) (hn : Only w w' g') (hne : g ≠ g') : StatAt w' g H := Ob.only h hn hne

/-- the four Stats stand apart, above what came in -/
structure Apart (B a b c d : Nat) : Prop where
  ha : B ≤ a
  hb : B ≤ b
  hc : B ≤ c
  hd : B ≤ d
  ab : a ≠ b
  ac : a ≠ c
  ad : a ≠ d
  bc : b ≠ c
  bd : b ≠ d
  cd : c ≠ d

structure Four (w wr : World) (ga gb gc gd : Nat) (Ha Hb Hc Hd : Nat → BitVec 64) : Prop where
  a : StatAt wr ga Ha
  b : StatAt wr gb Hb
  c : StatAt wr gc Hc
  d : StatAt wr gd Hd
  low : Below w.heap.size w wr

section
variable {w wr w' : World} {ga gb gc gd : Nat} {Ha Hb Hc Hd H' : Nat → BitVec 64}
theorem Four.ta (F : Four w wr ga gb gc gd Ha Hb Hc Hd) (S : Apart w.heap.size ga gb gc gd) (h : StatAt w' ga H') (hn : Only wr w' ga) : Four w w' ga gb gc gd H' Hb Hc Hd :=
  ⟨h, F.b.tell hn S.ab.symm, F.c.tell hn S.ac.symm, F.d.tell hn S.ad.symm, Only.below F.low hn F.low.size S.ha⟩
theorem Four.tb (F : Four w wr ga gb gc gd Ha Hb Hc Hd) (S : Apart w.heap.size ga gb gc gd) (h : StatAt w' gb H') (hn : Only wr w' gb) : Four w w' ga gb gc gd Ha H' Hc Hd :=
  ⟨F.a.tell hn S.ab, h, F.c.tell hn S.bc.symm, F.d.tell hn S.bd.symm, Only.below F.low hn F.low.size S.hb⟩
theorem Four.tc (F : Four w wr ga gb gc gd Ha Hb Hc Hd) (S : Apart w.heap.size ga gb gc gd) (h : StatAt w' gc H') (hn : Only wr w' gc) : Four w w' ga gb gc gd Ha Hb H' Hd :=
  ⟨F.a.tell hn S.ac, F.b.tell hn S.bc, h, F.d.tell hn S.cd.symm, Only.below F.low hn F.low.size S.hc⟩
theorem Four.td (F : Four w wr ga gb gc gd Ha Hb Hc Hd) (S : Apart w.heap.size ga gb gc gd) (h : StatAt w' gd H') (hn : Only wr w' gd) : Four w w' ga gb gc gd Ha Hb Hc H' :=
  ⟨F.a.tell hn S.ad, F.b.tell hn S.bd, F.c.tell hn S.cd, h, Only.below F.low hn F.low.size S.hd⟩
theorem Four.more (F : Four w wr ga gb gc gd Ha Hb Hc Hd) (h : Below wr.heap.size wr w') : Four w w' ga gb gc gd Ha Hb Hc Hd :=
  ⟨F.a.below h F.a.lt, F.b.below h F.b.lt, F.c.below h F.c.lt, F.d.below h F.d.lt, F.low.trans (h.mono F.low.size)⟩
end

theorem Four.aside {w wr w' : World} {ga gb gc gd g : Nat} {Ha Hb Hc Hd : Nat → BitVec 64} (F : Four w wr ga gb gc gd Ha Hb Hc Hd) (hn : Only wr w' g) (na : g ≠ ga) (nb : g ≠ gb) (nc : g ≠ gc) (nd : g ≠ gd) (hg : w.heap.size ≤ g) : Four w w' ga gb gc gd Ha Hb Hc Hd :=
  ⟨F.a.tell hn na.symm, F.b.tell hn nb.symm, F.c.tell hn nc.symm, F.d.tell hn nd.symm, Only.below F.low hn F.low.size hg⟩
theorem ob_own20 {w : World} {base g : Nat} {e : TypeId} {X : Nat → BitVec 64} (h : Ob w g e ([] ++ (arr 20 X ++ []))) (hb : base ≤ g) : w.ownsRow base e 5 (.slice (some ⟨g, 0, none⟩) 4 4) 4 (arr 20 X) := by
  have h' : Ob w g e (arr 20 X) := by simpa using h
  exact ⟨by rw [arr_length], .inr ⟨g, 4, (arr 20 X).toArray, rfl, hb, h', Nat.le_refl _, by simp [maxLen], by simp [arr_length], by simp [arr_length]; exact List.take_of_length_le (by rw [arr_length]; omega)⟩⟩

theorem tly_row : (Try.prog.info? 26).map (fun i => (i.zero, i.size, i.bytes)) = some (some (.agg #[.int .u64 0, .int .u64 0, .int .u64 0, .int .u64 0, .int .u64 0]), 5, 40) := by kernel_rfl

def four (H : Nat → BitVec 64) : List Tly := [tl H 0, tl H 1, tl H 2, tl H 3]
theorem tlys20 {w : World} {g : Nat} {T : TypeId} {H : Nat → BitVec 64} (h : Ob w g T ([] ++ (arr 20 H ++ []))) : TlysAt w g 0 (four H) := fun i hi j hj => by
  have hi4 : i < 4 := hi
  rw [Nat.zero_add, ob20_cells h i hi4 j hj]
  match i, hi4 with
  | 0, _ => rfl
  | 1, _ => rfl
  | 2, _ => rfl
  | 3, _ => rfl
/-- tallies of two rows of four that are alike -/
theorem same_rows {w : World} {x y : Nat} {H : Nat → BitVec 64} (hx : Ob w x 26 ([] ++ (arr 20 H ++ []))) (hy : Ob w y 26 ([] ++ (arr 20 H ++ []))) :
    Calls Try.prog 8 #[.slice (some ⟨x, 0, none⟩) 4 4, .slice (some ⟨y, 0, none⟩) 4 4] w fun e w' => e = .returned (.bool true) ∧ ∃ d, w' = w.drewN d :=
  tallies_true (four H) x 0 4 y 0 4 4 rfl (by omega) w (tlys20 hx) (tlys20 hy)
theorem tot_two (D A B : Nat → BitVec 64) (a b : Nat) (h : ∀ i, A i + B i = D i) : arr 20 (tot [some (a, A), some (b, B)]) = arr 20 D := arr_congr fun j _ => by
  rw [← h j]; simp [tot, cntOf]
theorem tot_one (D : Nat → BitVec 64) (a : Nat) : arr 20 (tot [some (a, D)]) = arr 20 D := arr_congr fun j _ => by simp [tot, cntOf]
theorem tot_gap (D A B : Nat → BitVec 64) (a b : Nat) (h : ∀ i, A i + B i = D i) : arr 20 (tot [some (b, B), none, some (a, A)]) = arr 20 D := arr_congr fun j _ => by
  rw [← h j]; simp [tot, cntOf, BitVec.add_comm]

set_option maxRecDepth 100000 in
set_option maxHeartbeats 4000000 in
theorem merges_walk (w : World) (script : List OpV) (A : Option Addr) (c n : Nat) (hn : n = script.length) (hm : n ≤ 17592186044416) (hr : 0 < n → ∃ b o, A = some ⟨b, o, none⟩ ∧ b < w.heap.size ∧ ∀ i, i < script.length → OpAt w b (o + i * 7) (script.getD i op0) ∧ OpOk w (script.getD i op0))
    (turns : List Int) (TA : Option Addr) (tc m : Nat) (htn : m = turns.length) (hs : Sl w TA (intsV turns)) :
    Calls Try.prog 5 #[.slice A n c, .slice TA m tc] w fun e w' => e = .returned (.bool true) ∧ Below w.heap.size w w' := by
  have HN := Lib.hid hn
  have HR := Lib.hid hr
  have HTN := Lib.hid htn
  have HT := Lib.hid hs
  clear hn hr htn hs
  go_enter Try.func5, Try.ntmps5
  go_wp2_with fail
  refine (awake_any w).mono ?_
  rintro e wa ⟨rfl, hba⟩
  have HBA := Lib.hid hba
  clear hba
  go_wp2_with fail
  refine (new_any wa).mono ?_
  rintro e w1 ⟨ga, rfl, hga, oa, b1⟩
  have GA := Lib.hid hga
  have OA := Lib.hid oa
  have B1 := Lib.hid b1
  clear hga oa b1
  go_wp2_with fail
  refine (new_any w1).mono ?_
  rintro e w2 ⟨gb, rfl, hgb, ob, b2⟩
  have GB := Lib.hid hgb
  have OB := Lib.hid ob
  have B2 := Lib.hid b2
  clear hgb ob b2
  go_wp2_with fail
  refine (new_any w2).mono ?_
  rintro e w3 ⟨gc, rfl, hgc, oc, b3⟩
  have GC := Lib.hid hgc
  have OC := Lib.hid oc
  have B3 := Lib.hid b3
  clear hgc oc b3
  go_wp2_with fail
  refine (new_any w3).mono ?_
  rintro e w4 ⟨gd, rfl, hgd, od, b4⟩
  have GD := Lib.hid hgd
  have OD := Lib.hid od
  have B4 := Lib.hid b4
  clear hgd od b4
  have la : ga < w1.heap.size := OA.out.lt
  have lb : gb < w2.heap.size := OB.out.lt
  have lc : gc < w3.heap.size := OC.out.lt
  have s0 := HBA.out.size
  have s1 := B1.out.size
  have s2 := B2.out.size
  have s3 := B3.out.size
  have S : Hid (Apart w.heap.size ga gb gc gd) := Lib.hid (by
    have := GA.out; have := GB.out; have := GC.out; have := GD.out
    constructor <;> omega)
  have F0 : Hid (Four w w4 ga gb gc gd (fun _ => 0#64) (fun _ => 0#64) (fun _ => 0#64) (fun _ => 0#64)) := Lib.hid
    ⟨((OA.out.below B2.out la).below B3.out (by omega)).below B4.out (by omega), (OB.out.below B3.out lb).below B4.out (by omega), OC.out.below B4.out lc, OD.out,
      (((HBA.out.trans (B1.out.mono s0)).trans (B2.out.mono (by omega))).trans (B3.out.mono (by omega))).trans (B4.out.mono (by omega))⟩
  clear OA OB OC OD B1 B2 B3 B4 GA GB GC GD la lb lc s0 s1 s2 s3
  go_wp2_with fail
  go_loopw [9] (fun i wr => ∃ (k : Nat) (Ha Hb Hc Hd : Nat → BitVec 64), k ≤ n ∧ i = .int .i64 k ∧ Four w wr ga gb gc gd Ha Hb Hc Hd ∧ (∀ i, Ha i + Hb i = dsum (script.take k) i) ∧ Hc = dsum (script.take k) ∧ Hd = dsum (script.drop (script.length - k))) (fun i _ => n - (intOf i).toNat)
  case atStart => exact ⟨0, _, _, _, _, Nat.zero_le _, rfl, F0.out, fun i => by simp [dsum], by funext i; simp [dsum], by funext i; simp [dsum]⟩
  case round =>
    obtain ⟨k, Ha, Hb, Hc, Hd, hk, rfl, hf, e1, e2, e3⟩ := hrel
    have F := Lib.hid hf
    have E1 := Lib.hid e1
    have E2 := Lib.hid e2
    have E3 := Lib.hid e3
    clear hf e1 e2 e3 F0
    by_cases hlt : k < n
    · have g1 : (k : Int) < (n : Int) := by omega
      obtain ⟨b, o, rfl, hbl, hop⟩ := HR.out (by omega)
      have OPS := Lib.hid hop
      clear hop
      obtain ⟨q, hq⟩ : ∃ q, q = script.length - 1 - k := ⟨_, rfl⟩
      have hkl : k < script.length := by have := HN.out; omega
      have hqq : (n : Int) - 1 - (k : Int) = (q : Int) := by have := HN.out; omega
      have hqn : (q : Int) < (n : Int) := by have := HN.out; omega
      have HQ := Lib.hid hq
      have HQL : Hid (q < script.length) := Lib.hid (by omega)
      have HK := Lib.hid hkl
      clear hkl hq
      obtain ⟨c0, c1, c2, c3, c4, c5, c6, _⟩ := (OPS.out k HK.out).1.below hbl F.out.low
      by_cases hkm : k < m
      · obtain ⟨tb, to_, rfl, htc⟩ := sl_intsV HT.out (by have := HTN.out; omega)
        have f1 := (F.out.low.cell (cell_lt (htc k (by have := HTN.out; omega)))).trans (htc k (by have := HTN.out; omega))
        clear htc
        generalize turns.getD k 0 = t at f1
        have g3 : (k : Int) < (m : Int) := by omega
        by_cases ht : t.tmod 2 = 0
        · have ht' : (t.tmod 2 == 0) = true := by simpa using ht
          go_wp2_with fail
          refine (tell_any gb Hb (script.getD k op0) _ F.out.b ((OPS.out k HK.out).2.below F.out.low)).mono ?_
          rintro e w5 ⟨⟨x5, rfl⟩, h5, n5⟩
          have F5 := Lib.hid (F.out.tb S.out h5 n5)
          clear h5 n5 c0 c1 c2 c3 c4 c5 c6
          obtain ⟨d0, d1, d2, d3, d4, d5, d6, _⟩ := (OPS.out k HK.out).1.below hbl F5.out.low
          go_wp2_with fail
          refine (tell_any gc Hc (script.getD k op0) _ F5.out.c ((OPS.out k HK.out).2.below F5.out.low)).mono ?_
          rintro e w6 ⟨⟨x6, rfl⟩, h6, n6⟩
          have F6 := Lib.hid (F5.out.tc S.out h6 n6)
          clear h6 n6 d0 d1 d2 d3 d4 d5 d6
          obtain ⟨d0, d1, d2, d3, d4, d5, d6, _⟩ := (OPS.out q HQL.out).1.below hbl F6.out.low
          go_wp2_with fail
          refine (tell_any gd Hd (script.getD q op0) _ F6.out.d ((OPS.out q HQL.out).2.below F6.out.low)).mono ?_
          rintro e w7 ⟨⟨x7, rfl⟩, h7, n7⟩
          have F7 := Lib.hid (F6.out.td S.out h7 n7)
          clear h7 n7 d0 d1 d2 d3 d4 d5 d6
          go_wp2_with fail
          go_roundw
          case rel =>
            refine ⟨k + 1, _, _, _, _, by omega, by go_num, F7.out, ?_, ?_, ?_⟩
            · intro i
              rw [eff_delta, dsum_take _ _ HK.out, ← E1.out i]
              show Ha i + (Hb i + delta _ i) = _
              ac_rfl
            · rw [eff_delta, E2.out]
              funext i
              rw [dsum_take _ _ HK.out]
            · rw [eff_delta, E3.out]
              funext i
              rw [dsum_drop _ _ HK.out, HQ.out]
          case measure => simp [intOf]; omega
        · have ht' : (t.tmod 2 == 0) = false := by simpa using ht
          go_wp2_with fail
          refine (tell_any ga Ha (script.getD k op0) _ F.out.a ((OPS.out k HK.out).2.below F.out.low)).mono ?_
          rintro e w5 ⟨⟨x5, rfl⟩, h5, n5⟩
          have F5 := Lib.hid (F.out.ta S.out h5 n5)
          clear h5 n5 c0 c1 c2 c3 c4 c5 c6
          obtain ⟨d0, d1, d2, d3, d4, d5, d6, _⟩ := (OPS.out k HK.out).1.below hbl F5.out.low
          go_wp2_with fail
          refine (tell_any gc Hc (script.getD k op0) _ F5.out.c ((OPS.out k HK.out).2.below F5.out.low)).mono ?_
          rintro e w6 ⟨⟨x6, rfl⟩, h6, n6⟩
          have F6 := Lib.hid (F5.out.tc S.out h6 n6)
          clear h6 n6 d0 d1 d2 d3 d4 d5 d6
          obtain ⟨d0, d1, d2, d3, d4, d5, d6, _⟩ := (OPS.out q HQL.out).1.below hbl F6.out.low
          go_wp2_with fail
          refine (tell_any gd Hd (script.getD q op0) _ F6.out.d ((OPS.out q HQL.out).2.below F6.out.low)).mono ?_
          rintro e w7 ⟨⟨x7, rfl⟩, h7, n7⟩
          have F7 := Lib.hid (F6.out.td S.out h7 n7)
          clear h7 n7 d0 d1 d2 d3 d4 d5 d6
          go_wp2_with fail
          go_roundw
          case rel =>
            refine ⟨k + 1, _, _, _, _, by omega, by go_num, F7.out, ?_, ?_, ?_⟩
            · intro i
              rw [eff_delta, dsum_take _ _ HK.out, ← E1.out i]
              show Ha i + delta _ i + Hb i = _
              ac_rfl
            · rw [eff_delta, E2.out]
              funext i
              rw [dsum_take _ _ HK.out]
            · rw [eff_delta, E3.out]
              funext i
              rw [dsum_drop _ _ HK.out, HQ.out]
          case measure => simp [intOf]; omega
      · have g3 : ¬ (k : Int) < (m : Int) := by omega
        go_wp2_with fail
        refine (tell_any gb Hb (script.getD k op0) _ F.out.b ((OPS.out k HK.out).2.below F.out.low)).mono ?_
        rintro e w5 ⟨⟨x5, rfl⟩, h5, n5⟩
        have F5 := Lib.hid (F.out.tb S.out h5 n5)
        clear h5 n5 c0 c1 c2 c3 c4 c5 c6
        obtain ⟨d0, d1, d2, d3, d4, d5, d6, _⟩ := (OPS.out k HK.out).1.below hbl F5.out.low
        go_wp2_with fail
        refine (tell_any gc Hc (script.getD k op0) _ F5.out.c ((OPS.out k HK.out).2.below F5.out.low)).mono ?_
        rintro e w6 ⟨⟨x6, rfl⟩, h6, n6⟩
        have F6 := Lib.hid (F5.out.tc S.out h6 n6)
        clear h6 n6 d0 d1 d2 d3 d4 d5 d6
        obtain ⟨d0, d1, d2, d3, d4, d5, d6, _⟩ := (OPS.out q HQL.out).1.below hbl F6.out.low
        go_wp2_with fail
        refine (tell_any gd Hd (script.getD q op0) _ F6.out.d ((OPS.out q HQL.out).2.below F6.out.low)).mono ?_
        rintro e w7 ⟨⟨x7, rfl⟩, h7, n7⟩
        have F7 := Lib.hid (F6.out.td S.out h7 n7)
        clear h7 n7 d0 d1 d2 d3 d4 d5 d6
        go_wp2_with fail
        go_roundw
        case rel =>
          refine ⟨k + 1, _, _, _, _, by omega, by go_num, F7.out, ?_, ?_, ?_⟩
          · intro i
            rw [eff_delta, dsum_take _ _ HK.out, ← E1.out i]
            show Ha i + (Hb i + delta _ i) = _
            ac_rfl
          · rw [eff_delta, E2.out]
            funext i
            rw [dsum_take _ _ HK.out]
          · rw [eff_delta, E3.out]
            funext i
            rw [dsum_drop _ _ HK.out, HQ.out]
        case measure => simp [intOf]; omega
    · have g1 : ¬ (k : Int) < (n : Int) := by omega
      have hkn : k = script.length := by have := HN.out; omega
      have Q1 : Hid (∀ i, Ha i + Hb i = dsum script i) := Lib.hid fun i => by rw [E1.out i, hkn, List.take_length]
      have Q2 : Hid (Hc = dsum script) := Lib.hid (by rw [E2.out, hkn, List.take_length])
      have Q3 : Hid (Hd = dsum script) := Lib.hid (by rw [E3.out, hkn, Nat.sub_self, List.drop_zero])
      clear E1 E2 E3
      go_wp2_with fail
      refine (merge_new [some (ga, Ha), some (gb, Hb)] wr _ (by rfl) ?_ _ (by rfl) _ (by rfl) (by omega)).mono ?_
      · intro x hx
        rcases List.mem_cons.1 hx with rfl | hx
        · exact F.out.a
        · rcases List.mem_cons.1 hx with rfl | hx
          · exact F.out.b
          · cases hx
      rintro e w5 ⟨gx, rfl, hgx, ox, b5⟩
      have GX := Lib.hid hgx
      have hlow : Hid (w.heap.size ≤ wr.heap.size) := Lib.hid F.out.low.size
      rw [tot_two _ _ _ _ _ Q1.out] at ox
      have OX := Lib.hid ox
      have F5 := Lib.hid (F.out.more b5)
      clear hgx ox b5
      go_wp2_with fail
      refine (merge_new [some (gc, Hc)] w5 _ (by rfl) ?_ _ (by rfl) _ (by rfl) (by omega)).mono ?_
      · intro x hx
        rcases List.mem_cons.1 hx with rfl | hx
        · exact F5.out.c
        · cases hx
      rintro e w6 ⟨gy, rfl, hgy, oy, b6⟩
      have GY := Lib.hid hgy
      have OX6 := Lib.hid (OX.out.below b6 OX.out.lt)
      rw [tot_one, Q2.out] at oy
      have OY := Lib.hid oy
      have F6 := Lib.hid (F5.out.more b6)
      clear hgy oy b6
      go_wp2_with fail
      refine (same_rows OX6.out OY.out).mono ?_
      rintro e w7' ⟨rfl, d7, rfl⟩
      have F7 := Lib.hid (F6.out.more (below_drewN (Below.refl _ w6) d7))
      go_wp2_with fail
      refine (merge_new [some (gb, Hb), none, some (ga, Ha)] (w6.drewN d7) _ (by rfl) ?_ _ (by rfl) _ (by rfl) (by omega)).mono ?_
      · intro x hx
        rcases List.mem_cons.1 hx with rfl | hx
        · exact F7.out.b
        · rcases List.mem_cons.1 hx with rfl | hx
          · trivial
          · rcases List.mem_cons.1 hx with rfl | hx
            · exact F7.out.a
            · cases hx
      rintro e w8 ⟨gz, rfl, hgz, oz, b8⟩
      rw [tot_gap _ _ _ _ _ Q1.out] at oz
      have OX8 := Lib.hid ((OX6.out.drewN d7).below b8 OX6.out.lt)
      have OY8 := Lib.hid ((OY.out.drewN d7).below b8 OY.out.lt)
      have OZ := Lib.hid oz
      have F8 := Lib.hid (F7.out.more b8)
      clear hgz oz b8
      go_wp2_with fail
      refine (same_rows OZ.out OY8.out).mono ?_
      rintro e w9' ⟨rfl, d9, rfl⟩
      have F9 := Lib.hid (F8.out.more (below_drewN (Below.refl _ w8) d9))
      go_wp2_with fail
      refine (merge_new [some (gd, Hd)] (w8.drewN d9) _ (by rfl) ?_ _ (by rfl) _ (by rfl) (by omega)).mono ?_
      · intro x hx
        rcases List.mem_cons.1 hx with rfl | hx
        · exact F9.out.d
        · cases hx
      rintro e w10 ⟨gu, rfl, hgu, ou, b10⟩
      rw [tot_one, Q3.out] at ou
      have OX10 := Lib.hid ((OX8.out.drewN d9).below b10 OX8.out.lt)
      have OY10 := Lib.hid ((OY8.out.drewN d9).below b10 OY8.out.lt)
      have OU := Lib.hid ou
      have F10 := Lib.hid (F9.out.more b10)
      have hxy : gx ≠ gy := by have := OX.out.lt; have := GY.out; omega
      clear hgu ou b10
      go_wp2_with fail
      refine (same_rows OU.out OY10.out).mono ?_
      rintro e w11' ⟨rfl, d11, rfl⟩
      have F11 := Lib.hid (F10.out.more (below_drewN (Below.refl _ w10) d11))
      have OX11 := Lib.hid (OX10.out.drewN d11)
      have OY11 := Lib.hid (OY10.out.drewN d11)
      clear F F5 F6 F7 F8 F9 F10 OX OX6 OX8 OX10 OY OY8 OY10 OZ OU
      go_wp2_with fail
      have hw0 : w.heap.size ≤ gx := by have := GX.out; have := F11.out.low.size; have := hlow.out; omega
      have HGX := Lib.hid hw0
      clear hw0
      generalize w10.drewN d11 = wl at F11 OX11 OY11 ⊢
      have hna : gx ≠ ga := OX11.out.ne_ F11.out.a (by decide)
      have hnb : gx ≠ gb := OX11.out.ne_ F11.out.b (by decide)
      have hnc : gx ≠ gc := OX11.out.ne_ F11.out.c (by decide)
      have hnd : gx ≠ gd := OX11.out.ne_ F11.out.d (by decide)
      go_loopw [12] (fun i wr => ∃ (k : Nat) (X : Nat → BitVec 64), k ≤ 4 ∧ i = .int .i64 k ∧ Ob wr gx 26 ([] ++ (arr 20 X ++ [])) ∧ Ob wr gy 26 ([] ++ (arr 20 (dsum script) ++ [])) ∧ Four w wr ga gb gc gd Ha Hb Hc Hd) (fun i _ => 4 - (intOf i).toNat)
      case atStart => exact ⟨0, _, by omega, rfl, OX11.out, OY11.out, F11.out⟩
      case round =>
        obtain ⟨j, X, hj, rfl, hx, hy, hf⟩ := hrel
        have OX := Lib.hid hx
        have OY := Lib.hid hy
        have F := Lib.hid hf
        clear hx hy hf OX11 OY11 F11
        by_cases hlj : j < 4
        · have a0 : wr.cell? ⟨gx, j * 5, none⟩ = some (.int .u64 (uv (tl X j 0))) := ob20_cells OX.out j hlj 0 (by omega)
          have z0 : ∀ i, wr.frozen? ⟨gx, i, none⟩ = false := OX.out.frozen
          have g5 : (j : Int) < 4 := by omega
          go_wp2_with fail
          refine ⟨⟨j + 1, upd X (j * 5) (tl X j 0 + 1#64), by omega, by go_num, ?_, ?_, ?_⟩, by simp [intOf]; omega⟩
          · have h := Ob.put (pre := []) OX.out (j * 5) (by omega) (tl X j 0 + 1#64)
            rw [List.length_nil, Nat.zero_add] at h
            exact h
          · exact OY.out.far (by show gy ≠ gx; omega) _
          · exact F.out.aside ((Only.refl _ _).setCell rfl _) hna hnb hnc hnd HGX.out
        · have g5 : ¬ (j : Int) < 4 := by omega
          obtain ⟨i0, hi0, hz0, hz1, hz2⟩ := info_parts tly_row
          have hlt : gx < wr.heap.size := OX.out.lt
          have hown0 : Hid ((wr.alloc (.cells #[.int .u64 0, .int .u64 0, .int .u64 0, .int .u64 0, .int .u64 0] 26)).ownsRow w.heap.size 26 5 (.slice (some ⟨gx, 0, none⟩) 4 4) 4 (arr 20 X)) := Lib.hid (ob_own20 (OX.out.alloc _) HGX.out)
          have SL : Hid (Sl (wr.alloc (.cells #[.int .u64 0, .int .u64 0, .int .u64 0, .int .u64 0, .int .u64 0] 26)) (some ⟨wr.heap.size, 0, none⟩) (arr 5 z5)) := Lib.hid (Sl.fresh wr (arr 5 z5).toArray 26 (0, 0))
          have FA := Lib.hid (F.out.more (below_alloc (Below.refl _ wr) (.cells #[.int .u64 0, .int .u64 0, .int .u64 0, .int .u64 0, .int .u64 0] 26)))
          have OYA := Lib.hid (OY.out.alloc (.cells #[.int .u64 0, .int .u64 0, .int .u64 0, .int .u64 0, .int .u64 0] 26))
          go_wp2_with
            (at_builtin
             refine wpList_append_in _ rfl (.tmp 112) (.tmp 114) _ rfl FA.out.low 26 i0 _ 5 40 Try.underlying22 hi0 hz0 hz1 hz2 rfl (by omega) _ 4 (arr 20 X) rfl hown0.out
               (some ⟨wr.heap.size, 0, none⟩) 1 1 (arr 5 z5) rfl (by rw [arr_length]) SL.out (arr_one 5 z5) (by omega) (by omega) ?_
             intro v2 w2 hown hb2 g1 g2
             clear g2
             have hex := own_form hown
             obtain ⟨A2, c2, hv2, hnc2, hcm2, hsl2, hA2⟩ := hex
             have F12 : Hid (Four w w2 ga gb gc gd Ha Hb Hc Hd) := Lib.hid ⟨FA.out.a.grown g1 fun h => hna (Option.some.inj h).symm, FA.out.b.grown g1 fun h => hnb (Option.some.inj h).symm, FA.out.c.grown g1 fun h => hnc (Option.some.inj h).symm, FA.out.d.grown g1 fun h => hnd (Option.some.inj h).symm, hb2⟩
             have OY12 := Lib.hid (OYA.out.grown g1 fun h => hxy (Option.some.inj h).symm)
             rw [hv2]
             clear hown hv2 hsl2 hA2 hb2 g1)
          refine (merge_new [some (ga, Ha), some (gb, Hb)] w2 _ (by rfl) ?_ _ (by rfl) _ (by rfl) (by omega)).mono ?_
          · intro x hx
            rcases List.mem_cons.1 hx with rfl | hx
            · exact F12.out.a
            · rcases List.mem_cons.1 hx with rfl | hx
              · exact F12.out.b
              · cases hx
          rintro e w13 ⟨gt, rfl, hgt, ot, b13⟩
          rw [tot_two _ _ _ _ _ Q1.out] at ot
          have OT := Lib.hid ot
          have OY13 := Lib.hid (OY12.out.below b13 OY12.out.lt)
          have F13 := Lib.hid (F12.out.more b13)
          clear hgt ot b13
          go_wp2_with fail
          refine (same_rows OT.out OY13.out).mono ?_
          rintro e w14' ⟨rfl, d14, rfl⟩
          have F14 := Lib.hid (F13.out.more (below_drewN (Below.refl _ w13) d14))
          go_wp2_with fail
          all_goals first | (refine bodyPost_ret (v := .bool true) (by first | rfl | kernel_rfl) (by first | rfl | kernel_rfl) ?_; exact ⟨rfl, F14.out.low⟩) | (go_ret; exact ⟨rfl, F14.out.low⟩)

/-- the law's walk, with the arguments as they came in -/
theorem merges_law (w : World) (l : List OpV) (v : Value) (hr : RdOps w v l) (ns : List Int) (tv : Value) (hr2 : RdInts .i64 w tv ns) :
    Calls Try.prog 5 #[v, tv] w fun e w' => e = .returned (.bool true) ∧ Below w.heap.size w w' := by
  obtain ⟨⟨A, c, rfl, hc, hb⟩, hm⟩ := hr
  obtain ⟨⟨TA, tc, rfl, hc2, hs⟩, _, _⟩ := hr2
  exact merges_walk w l A c l.length rfl (by omega) hb ns TA tc ns.length rfl hs

end Go.Proofs.Ytkjffhlnghgkoaa
