/-
  Layer 9: the walk of ways. Conditions: those of each theorem.
-/
import Derived.Test.YtikkmkomlajnfaaGreatDoorWm01
import Derived.Test.YtikkmkomlajnfaaGreatDoorWm20
set_option linter.unusedVariables false
set_option linter.unusedSimpArgs false
section
namespace Go.Proofs.YtikkmkomlajnfaaGreatDoor.Jd
set_option maxRecDepth 100000
set_option maxHeartbeats 16000000
open Go.RowKit
open Go.Proofs.YtikkmkomlajnfaaGreatDoor.Op (InstV insc insVal inss ins0 ins_at rightV right_is Frm goesV writesV sourceV LoopV lpc lps lp0 lp_at)

theorem goes_cases {i : InstV} (h : rightV i = true) : (i.op = 22 ∧ goesV i = (0, false, false)) ∨ (i.op = 15 ∧ goesV i = (i.d + 1, true, false)) ∨ (16 ≤ i.op ∧ i.op ≤ 19 ∧ goesV i = (i.d + 1, true, true)) ∨ (i.op = 20 ∧ goesV i = (-i.d, true, true)) ∨ ((i.op ≤ 14 ∨ i.op = 21) ∧ goesV i = (0, false, true)) := by
 have r := right_is h
 have h0 := r.o0
 have h1 := r.o1
 unfold goesV
 rw [if_pos h]
 by_cases c1 : 15 ≤ i.op ∧ i.op ≤ 19
 · rw [if_pos c1]
   by_cases c2 : i.op = 15
   · exact .inr (.inl ⟨c2, by rw [c2]; rfl⟩)
   exact .inr (.inr (.inl ⟨by omega, c1.2, by rw [show (i.op != 15) = true by simpa using c2]⟩))
 rw [if_neg c1]
 by_cases c3 : i.op = 20
 · rw [if_pos c3]; exact .inr (.inr (.inr (.inl ⟨c3, rfl⟩)))
 rw [if_neg c3]
 by_cases c4 : i.op = 22
 · exact .inl ⟨c4, by rw [c4]; rfl⟩
 exact .inr (.inr (.inr (.inr ⟨by omega, by rw [show (i.op != 22) = true by simpa using c4]⟩)))

theorem ways_any (w : World) (g gc ga n nc na : Nat) (mV lV : Value) (cA lA : Option Addr) (cc : Nat) (C : Nat → Nat → JT) (N : Nat → Bool) (p : Nat) (K : Nat → JT) (l : List InstV) (ls : List LoopV) (hp : p < n) (hm : n ≤ 64) (hn : n = l.length)
 (hr : ∀ i ∈ l, rightV i = true) (h15 : 15 ≤ (l.getD p ins0).op → (l.getD p ins0).op ≤ 19 → p + (l.getD p ins0).d.toNat + 1 < n) (hon : (l.getD p ins0).op ≠ 22 → (l.getD p ins0).op ≠ 15 → p + 1 < n)
 (hR : ∀ p r, JR (C p r)) (hK : ∀ r, JR (K r))
 (he : JEnv w gc ga cA lA l ls) (hj : JAt w g gc ga n nc na mV (.slice cA n cc) lV C N) :
 Calls Tryz.prog 56 #[.pointer (some ⟨g, 0, none⟩), .int .i64 p, kVal K] w fun e w' =>
  e = .returned (.tuple #[]) ∧ JAt w' g gc ga n nc na mV (.slice cA n cc) lV (waysC (l.getD p ins0) K p C N) (waysN (l.getD p ins0) K p N) ∧ JTch w w' gc ga := by
 have HP := Lib.hid hp
 have HM := Lib.hid hm
 have HE := Lib.hid he
 have HJ := Lib.hid hj
 have HCR := Lib.hid hR
 have HKR := Lib.hid hK
 have hpl : p < l.length := by omega
 have hri := hr (l.getD p ins0) (by rw [List.getD_eq_getElem?_getD, List.getElem?_eq_getElem hpl]; exact List.getElem_mem hpl)
 obtain ⟨bc, oc, e, _, hc⟩ := ins_at he.c (by omega)
 subst e
 have HC := Lib.hid (hc p hpl)
 generalize l.getD p ins0 = i at HC hri h15 hon ⊢
 have HR := Lib.hid hri
 have HI := Lib.hid (right_is hri)
 have H15 := Lib.hid h15
 have HON := Lib.hid hon
 have HGO := Lib.hid (goes_cases hri)
 obtain ⟨CF, hCF⟩ : ∃ CF, waysC i K p C N = CF := ⟨_, rfl⟩
 obtain ⟨NF, hNF⟩ : ∃ NF, waysN i K p N = NF := ⟨_, rfl⟩
 rw [hCF, hNF]
 have HCF := Lib.hid hCF
 have HNF := Lib.hid hNF
 clear he hp hn hr hm hc hri hpl h15 hon hCF hNF hR hK
 obtain ⟨op, d, a, b, m⟩ := i
 have B0 := Lib.hid (Below.refl w.heap.size w)
 have g1 : (p : Int) < (n : Int) := by have := HP.out; omega
 have g2 : (0 : Int) ≤ (p : Int) := by omega
 have HGA := Lib.hid hj.a.lt
 clear hj
 unfold kVal
 go_enter Tryz.func56, Tryz.ntmps56
 go_upto_region 1 with fail
 have O5 := Lib.hid (Ob.fresh w 136 (kc K))
 have B1 := Lib.hid (below_alloc (B0.out) (.cells (kc K).toArray 136))
 have Hq5 := Lib.hid (show w.heap.size ≤ w.heap.size by have := B0.out.size; omega)
 clear B0
 generalize (w.alloc (.cells (kc K).toArray 136)) = w1 at O5 B1 ⊢
 obtain ⟨q5, hq5⟩ : ∃ q5, w.heap.size = q5 := ⟨_, rfl⟩
 have Hq5 := Lib.hid (Nat.le_of_eq hq5)
 rw [hq5] at O5 ⊢
 clear hq5
 have y1 : w1.cell? ⟨g, 1, none⟩ = some (.slice (some ⟨bc, oc, none⟩) n cc) := (HJ.out.below B1.out).o.cell 1
 have c0 := keepS B1.out HC.out.1
 have c1 := keepS B1.out HC.out.2.1
 have c2 := keepS B1.out HC.out.2.2.1
 have c3 := keepS B1.out HC.out.2.2.2.1
 have c4 := keepS B1.out HC.out.2.2.2.2
 dsimp only at c0 c1 c2 c3 c4
 go_upto_region 2 with fail
 clear y1 c0 c1 c2 c3 c4
 have O6 := Lib.hid (Ob.fresh w1 59 [.int .i64 op, .int .i64 d, .int .i64 a, .int .i64 b, .int .i64 m])
 have O5b := Lib.hid (Ob.alloc (O5.out) (.cells #[.int .i64 op, .int .i64 d, .int .i64 a, .int .i64 b, .int .i64 m] 59))
 have B2 := Lib.hid (below_alloc (B1.out) (.cells #[.int .i64 op, .int .i64 d, .int .i64 a, .int .i64 b, .int .i64 m] 59))
 have Hq6 := Lib.hid (show w.heap.size ≤ w1.heap.size by have := B1.out.size; omega)
 clear B1 O5
 generalize (w1.alloc (.cells #[.int .i64 op, .int .i64 d, .int .i64 a, .int .i64 b, .int .i64 m] 59)) = w2 at O6 O5b B2 ⊢
 obtain ⟨q6, hq6⟩ : ∃ q6, w1.heap.size = q6 := ⟨_, rfl⟩
 rw [hq6] at O6 Hq6 ⊢
 clear hq6
 have HW := Lib.hid (show WSt w w2 gc ga q5 q6 K ⟨op, d, a, b, m⟩ from ⟨JTch.of B2.out, O5b.out, O6.out, Hq5.out, Hq6.out, HJ.out.c.lt, HGA.out⟩)
 have E2 := Lib.hid (HE.out.below B2.out)
 have J2 := Lib.hid (HJ.out.below B2.out)
 clear O5b O6 Hq5 Hq6 B2 g1 g2
 have i0 : w2.cell? ⟨q6, 0, none⟩ = some (.int .i64 op) := HW.out.o6.cell 0
 have i1 : w2.cell? ⟨q6, 1, none⟩ = some (.int .i64 d) := HW.out.o6.cell 1
 have i2 : w2.cell? ⟨q6, 2, none⟩ = some (.int .i64 a) := HW.out.o6.cell 2
 have i3 : w2.cell? ⟨q6, 3, none⟩ = some (.int .i64 b) := HW.out.o6.cell 3
 have i4 : w2.cell? ⟨q6, 4, none⟩ = some (.int .i64 m) := HW.out.o6.cell 4
 have HGC := Lib.hid (Op.goes_any w2 ⟨op, d, a, b, m⟩ E2.out.f)
 unfold insVal at HGC
 obtain ⟨G, hG⟩ : ∃ G, goesV ⟨op, d, a, b, m⟩ = G := ⟨_, rfl⟩
 rw [hG] at HGC
 have HGO := Lib.hid (hG ▸ HGO.out)
 clear hG
 obtain ⟨gd, gl, go⟩ := G
 dsimp only at HGO HGC
 go_wp2_with fail
 refine HGC.out.mono ?_
 rintro e w3 ⟨rfl, b3⟩
 have W3 := Lib.hid (HW.out.below b3)
 have E3 := Lib.hid (E2.out.below b3)
 have J3 := Lib.hid (J2.out.below b3)
 clear b3 HW E2 J2 HGC i0 i1 i2 i3 i4
 have hgo := HGO.out
 clear HGO
 rcases hgo with ⟨ho, hgv⟩ | ⟨ho, hgv⟩ | ⟨ho, ho2, hgv⟩ | ⟨ho, hgv⟩ | ⟨ho, hgv⟩
 all_goals
  injection hgv with e1 hgv
  injection hgv with e2 e3
  subst e1 e2 e3
 · replace HCF := Lib.hid (show C = CF from by rw [← HCF.out]; unfold waysC; rw [if_pos ho])
   replace HNF := Lib.hid (show N = NF from by rw [← HNF.out]; unfold waysN; rw [if_pos ho])
   clear ho
   go_wp2_with fail
   exact bodyPost_ret (v := .tuple #[]) (by simp [results, Tryz.results56, go_sem]) rfl ⟨rfl, by rw [← HCF.out, ← HNF.out]; exact J3.out, W3.out.t⟩
 · replace HCF := Lib.hid (show comC C N (p + d.toNat + 1) K = CF from by rw [← HCF.out]; unfold waysC; rw [if_neg (by first | omega | (dsimp only; omega)), if_pos ho])
   replace HNF := Lib.hid (show updN N (p + d.toNat + 1) = NF from by rw [← HNF.out]; unfold waysN; rw [if_neg (by first | omega | (dsimp only; omega)), if_pos ho])
   have HTO := Lib.hid (show p + d.toNat + 1 < n from H15.out (by first | omega | (dsimp only; omega)) (by first | omega | (dsimp only; omega)))
   obtain ⟨dd, rfl⟩ : ∃ dd : Nat, d = dd := ⟨d.toNat, by have := HI.out.d0; dsimp only at this; omega⟩
   rw [Int.toNat_natCast] at HCF HNF HTO
   have gt1 : decide ((dd : Int) + 1 < 0) = false := by rw [decide_eq_false_iff_not]; omega
   have gt2 : wrap64 ((p : Int) + ((dd : Int) + 1)) = ((p + dd + 1 : Nat) : Int) := by have h1 := HTO.out; have h2 := HM.out; unfold wrap64; push_cast; omega
   clear ho
   have lk := Lib.hid W3.out.row
   go_wp2_with ((with_reducible refine wpList_load_mid ?_ 136 (.tmp 5) ?_ q5 (0) ?_ (kc K) (.array 8 134) lk.out ?_ ?_ ?_ ?_); rfl; rfl; rfl; kernel_rfl; rfl; (rw [known_info, kc_length]))
   refine (come_any w3 g gc ga n nc na mV (.slice (some ⟨bc, oc, none⟩) n cc) lV C N (p + dd + 1) K HTO.out HM.out HCR.out HKR.out J3.out).mono ?_
   rintro e wq ⟨rfl, jq, tq⟩
   have JQ := Lib.hid jq
   have TQ := Lib.hid tq
   clear jq tq
   go_wp2_with fail
   exact bodyPost_ret (v := .tuple #[]) (by simp [results, Tryz.results56, go_sem]) rfl ⟨rfl, by rw [HCF.out, HNF.out] at JQ; exact JQ.out, JTch.trans W3.out.t TQ.out⟩
 · replace HCF := Lib.hid (show wayC ⟨op, d, a, b, m⟩ K p false (wayC ⟨op, d, a, b, m⟩ K p true C N) (wayN ⟨op, d, a, b, m⟩ K p true N) = CF from by rw [← HCF.out]; unfold waysC; rw [if_neg (by first | omega | (dsimp only; omega)), if_neg (by first | omega | (dsimp only; omega)), if_pos ⟨ho, ho2⟩])
   replace HNF := Lib.hid (show wayN ⟨op, d, a, b, m⟩ K p false (wayN ⟨op, d, a, b, m⟩ K p true N) = NF from by rw [← HNF.out]; unfold waysN; rw [if_neg (by first | omega | (dsimp only; omega)), if_neg (by first | omega | (dsimp only; omega)), if_pos ⟨ho, ho2⟩])
   have HT1 := Lib.hid (show p + d.toNat + 1 < n from H15.out (by first | omega | (dsimp only; omega)) (by first | omega | (dsimp only; omega)))
   have HT0 := Lib.hid (show p + 1 < n from HON.out (by first | omega | (dsimp only; omega)) (by first | omega | (dsimp only; omega)))
   have HDK := Lib.hid (show AM.hdOk op = true from decide_eq_true ⟨ho, ho2⟩)
   obtain ⟨dd, rfl⟩ : ∃ dd : Nat, d = dd := ⟨d.toNat, by have := HI.out.d0; dsimp only at this; omega⟩
   rw [Int.toNat_natCast] at HT1
   have gt1 : decide ((dd : Int) + 1 < 0) = false := by rw [decide_eq_false_iff_not]; omega
   clear ho ho2
   have HSR := Lib.hid (source_any w3 ⟨op, dd, a, b, m⟩ K HI.out.b)
   unfold insVal kVal at HSR
   obtain ⟨s9, hs9⟩ : ∃ s9, srcT ⟨op, dd, a, b, m⟩ K = s9 := ⟨_, rfl⟩
   have HSJ := Lib.hid (show JR s9 from hs9 ▸ srcT_right HKR.out)
   have HS9 := Lib.hid hs9
   rw [hs9] at HSR
   clear hs9
   obtain ⟨sk, sl, sh, sm⟩ := s9
   unfold jVal at HSR
   dsimp only at HSR
   have lk := Lib.hid W3.out.row
   have i0 : w3.cell? ⟨q6, 0, none⟩ = some (.int .i64 op) := W3.out.o6.cell 0
   have i1 : w3.cell? ⟨q6, 1, none⟩ = some (.int .i64 (dd : Int)) := W3.out.o6.cell 1
   have i2 : w3.cell? ⟨q6, 2, none⟩ = some (.int .i64 a) := W3.out.o6.cell 2
   have i3 : w3.cell? ⟨q6, 3, none⟩ = some (.int .i64 b) := W3.out.o6.cell 3
   have i4 : w3.cell? ⟨q6, 4, none⟩ = some (.int .i64 m) := W3.out.o6.cell 4
   go_wp2_with ((with_reducible refine wpList_load_mid ?_ 136 (.tmp 5) ?_ q5 (0) ?_ (kc K) (.array 8 134) lk.out ?_ ?_ ?_ ?_); rfl; rfl; rfl; kernel_rfl; rfl; (rw [known_info, kc_length]))
   refine HSR.out.mono ?_
   rintro e w4 ⟨rfl, b4⟩
   have W4 := Lib.hid (W3.out.below b4)
   have E4 := Lib.hid (E3.out.below b4)
   have J4 := Lib.hid (J3.out.below b4)
   have B4 := Lib.hid (Below.refl w4.heap.size w4)
   clear b4 W3 E3 J3 HSR lk i0 i1 i2 i3 i4
   go_upto_region 9 with fail
   have O10 := Lib.hid (Ob.fresh w4 134 [.int .i64 sk, .int .u64 (uv sl), .int .u64 (uv sh), .int .i64 sm])
   have B5 := Lib.hid (below_alloc (B4.out) (.cells #[.int .i64 sk, .int .u64 (uv sl), .int .u64 (uv sh), .int .i64 sm] 134))
   have Hq10 := Lib.hid (show w4.heap.size ≤ w4.heap.size by have := B4.out.size; omega)
   clear B4
   generalize (w4.alloc (.cells #[.int .i64 sk, .int .u64 (uv sl), .int .u64 (uv sh), .int .i64 sm] 134)) = w5 at O10 B5 ⊢
   obtain ⟨q10, hq10⟩ : ∃ q10, w4.heap.size = q10 := ⟨_, rfl⟩
   have Hq10 := Lib.hid (Nat.le_of_eq hq10)
   rw [hq10] at O10 ⊢
   clear hq10
   have W5 := Lib.hid (W4.out.below B5.out)
   have J5 := Lib.hid (J4.out.below B5.out)
   have Q10 := Lib.hid (show w.heap.size ≤ q10 from Nat.le_trans W4.out.t.size Hq10.out)
   clear W4 E4 J4 Hq10
   go_wp2_with fail
   have OB := Lib.hid (Ob.fresh w5 4 [.bool true, .bool false])
   have LS := Lib.hid (show LSt w (w5.alloc (.cells #[.bool true, .bool false] 4)) g gc ga n nc na mV (.slice (some ⟨bc, oc, none⟩) n cc) lV C N q5 q6 q10 w5.heap.size K ⟨op, dd, a, b, m⟩ ⟨sk, sl, sh, sm⟩ from ⟨W5.out.below (below_alloc (Below.refl _ _) _), J5.out.below (below_alloc (Below.refl _ _) _), O10.out.alloc _, OB.out, Q10.out, Nat.le_trans W5.out.t.size (Nat.le_refl _)⟩)
   clear OB W5 J5 O10 B5
   generalize w5.alloc (.cells #[.bool true, .bool false] 4) = w6 at LS ⊢
   obtain ⟨qb, hqb⟩ : ∃ qb, w5.heap.size = qb := ⟨_, rfl⟩
   rw [hqb] at LS ⊢
   clear hqb
   obtain ⟨C1, hC1⟩ : ∃ C1, wayC ⟨op, dd, a, b, m⟩ K p true C N = C1 := ⟨_, rfl⟩
   obtain ⟨N1, hN1⟩ : ∃ N1, wayN ⟨op, dd, a, b, m⟩ K p true N = N1 := ⟨_, rfl⟩
   rw [hC1, hN1] at HCF
   rw [hN1] at HNF
   have HCR1 := Lib.hid (show ∀ p r, JR (C1 p r) from hC1 ▸ wayC_right HCR.out HKR.out)
   have HC1 := Lib.hid hC1
   have HN1 := Lib.hid hN1
   clear hC1 hN1
   go_loopw [56] (fun i wr => (i = .int .i64 0 ∧ LSt w wr g gc ga n nc na mV (.slice (some ⟨bc, oc, none⟩) n cc) lV C N q5 q6 q10 qb K ⟨op, dd, a, b, m⟩ ⟨sk, sl, sh, sm⟩) ∨ (i = .int .i64 1 ∧ LSt w wr g gc ga n nc na mV (.slice (some ⟨bc, oc, none⟩) n cc) lV C1 N1 q5 q6 q10 qb K ⟨op, dd, a, b, m⟩ ⟨sk, sl, sh, sm⟩) ∨ (i = .int .i64 2 ∧ LSt w wr g gc ga n nc na mV (.slice (some ⟨bc, oc, none⟩) n cc) lV CF NF q5 q6 q10 qb K ⟨op, dd, a, b, m⟩ ⟨sk, sl, sh, sm⟩)) (fun i _ => 2 - (intOf i).toNat)
   case atStart => exact Or.inl ⟨rfl, LS.out⟩
   case round =>
    rcases hrel with ⟨rfl, hl⟩ | ⟨rfl, hl⟩ | ⟨rfl, hl⟩
    · have LR := Lib.hid hl
      clear hl LS
      obtain ⟨ra, hra⟩ : ∃ ra : Nat, a = ra := ⟨a.toNat, by have := HI.out.a0; dsimp only at this; omega⟩
      subst hra
      have hra8 : ra < 8 := by have := HI.out.a1; dsimp only at this; omega
      have g3 : (ra : Int) < 8 := by omega
      have g4 : (0 : Int) ≤ (ra : Int) := by omega
      have HRA := Lib.hid hra8
      clear hra8
      have bt : wr.cell? ⟨qb, 0, none⟩ = some (.bool true) := LR.out.b.cell 0
      have gw : IntKind.i64.wrap ((p : Int) + ((dd : Int) + 1)) = ((p + dd + 1 : Nat) : Int) := by have h1 := HT1.out; have h2 := HM.out; rw [IntKind.wrap_i64]; push_cast; omega
      go_upto_region 12 with fail
      clear bt
      obtain ⟨wd, hwd⟩ : ∃ wd, wr.drew = wd := ⟨_, rfl⟩
      have LD := Lib.hid (hwd ▸ LR.out.drew)
      have BD := Lib.hid (Below.refl wd.heap.size wd)
      refine wp_region_held_drew (S := fun w' => (w'.rangeAt q5 0 (kc K))) (by kernel_rfl) (hwd ▸ LD.out.W.row) (fun hHeld => ?_)
      refine tkq 0 60 rfl (by kernel_rfl) (by rfl) hHeld (fun _ _ _ h => h) (by intro w' hSw; go_simp; try with_reducible rfl) ?_
      simp only [Act.put, spa, spb, spc]
      refine tkq 1 61 rfl (by kernel_rfl) (by rfl) hHeld (fun _ _ _ h => h) (by intro w' hSw; go_simp; try with_reducible rfl) ?_
      simp only [Act.put, spa, spb, spc]
      refine tkq 2 62 rfl (by kernel_rfl) (by rfl) hHeld (fun _ _ _ h => h) (by intro w' hSw; go_simp; try with_reducible rfl) ?_
      simp only [Act.put, spa, spb, spc]
      refine wpAnyH_take (i := 3) (oi := ⟨some 63, .load 136 (.tmp 5), _, _, _, none⟩) (v := .agg (kc K).toArray) rfl (by kernel_rfl) (by kernel_rfl) (by kernel_rfl) (fun _ _ _ h => h) (yieldsIf_load_mid (by rfl) 136 (.tmp 5) rfl q5 (0) rfl (kc K) (.array 8 134) (fun w' h => h) (by kernel_rfl) rfl (by rw [known_info, kc_length])) (by assumption) ?_
      simp only [Act.put, spa, spb, spc]
      refine rdq 4 ⟨some 14, _, _, _, _, _⟩ (by kernel_rfl) rfl (fun K' hK => ?_)
      go_simp
      refine hK.out _ _ (keepR2 (below_alloc BD.out (.cells #[.int .i64 0, .int .u64 0, .int .u64 0, .int .i64 0, .int .i64 0, .int .u64 0, .int .u64 0, .int .i64 0, .int .i64 0, .int .u64 0, .int .u64 0, .int .i64 0, .int .i64 0, .int .u64 0, .int .u64 0, .int .i64 0, .int .i64 0, .int .u64 0, .int .u64 0, .int .i64 0, .int .i64 0, .int .u64 0, .int .u64 0, .int .i64 0, .int .i64 0, .int .u64 0, .int .u64 0, .int .i64 0, .int .i64 0, .int .u64 0, .int .u64 0, .int .i64 0] 136)) LD.out.W.row) (fun hHeld => ?_)
      clear hK K'
      clear hHeld
      have NK := Lib.hid (Ob.fresh wd 136 [.int .i64 0, .int .u64 0, .int .u64 0, .int .i64 0, .int .i64 0, .int .u64 0, .int .u64 0, .int .i64 0, .int .i64 0, .int .u64 0, .int .u64 0, .int .i64 0, .int .i64 0, .int .u64 0, .int .u64 0, .int .i64 0, .int .i64 0, .int .u64 0, .int .u64 0, .int .i64 0, .int .i64 0, .int .u64 0, .int .u64 0, .int .i64 0, .int .i64 0, .int .u64 0, .int .u64 0, .int .i64 0, .int .i64 0, .int .u64 0, .int .u64 0, .int .i64 0])
      have BA := Lib.hid (below_alloc (BD.out) (.cells #[.int .i64 0, .int .u64 0, .int .u64 0, .int .i64 0, .int .i64 0, .int .u64 0, .int .u64 0, .int .i64 0, .int .i64 0, .int .u64 0, .int .u64 0, .int .i64 0, .int .i64 0, .int .u64 0, .int .u64 0, .int .i64 0, .int .i64 0, .int .u64 0, .int .u64 0, .int .i64 0, .int .i64 0, .int .u64 0, .int .u64 0, .int .i64 0, .int .i64 0, .int .u64 0, .int .u64 0, .int .i64 0, .int .i64 0, .int .u64 0, .int .u64 0, .int .i64 0] 136))
      have Hq14 := Lib.hid (show wd.heap.size ≤ wd.heap.size by have := BD.out.size; omega)
      clear BD
      generalize (wd.alloc (.cells #[.int .i64 0, .int .u64 0, .int .u64 0, .int .i64 0, .int .i64 0, .int .u64 0, .int .u64 0, .int .i64 0, .int .i64 0, .int .u64 0, .int .u64 0, .int .i64 0, .int .i64 0, .int .u64 0, .int .u64 0, .int .i64 0, .int .i64 0, .int .u64 0, .int .u64 0, .int .i64 0, .int .i64 0, .int .u64 0, .int .u64 0, .int .i64 0, .int .i64 0, .int .u64 0, .int .u64 0, .int .i64 0, .int .i64 0, .int .u64 0, .int .u64 0, .int .i64 0] 136)) = wa at NK BA ⊢
      obtain ⟨q14, hq14⟩ : ∃ q14, wd.heap.size = q14 := ⟨_, rfl⟩
      have Hq14 := Lib.hid (Nat.le_of_eq hq14)
      rw [hq14] at NK ⊢
      clear hq14
      have LA := Lib.hid (LD.out.below BA.out)
      have hHeld := LA.out.W.row
      refine tkq 5 13 rfl (by kernel_rfl) (by rfl) hHeld (fun _ _ _ h => h) (by intro w' hSw; go_simp; try with_reducible rfl) ?_
      simp only [Act.put, spa, spb, spc]
      refine rdq 6 ⟨none, _, _, _, _, _⟩ (by kernel_rfl) rfl (fun K' hK => ?_)
      rw [if_pos (by rfl)]
      have HTH : wa.there q14 0 32 := fun j hj => ⟨by rw [Nat.zero_add, NK.out.cell, ← kc_zero2, kc_rg, rg_get _ _ hj]; rfl, by rw [Nat.zero_add]; exact NK.out.frozen _⟩
      refine wp_store_mid 136 (.tmp 14) (.tmp 63) rfl q14 0 (kc K).toArray rfl rfl (by simpa [kc_length] using HTH) (by rw [known_info]; simp [kc_length]) (all_oneCell_toArray (kc_one K)) ?_
      change K' _ (World.setCells wa q14 0 (kc K))
      refine hK.out _ _ (LD.out.below (below_setCells Hq14.out (kc K) 0 BA.out)).W.row (fun hHeld => ?_)
      clear hK K'
      refine wpAnyH_done (by kernel_rfl) ?_ _
      have K14 := Lib.hid (ob_over NK.out (show (kc K).length = _ from rfl))
      have L14 := Lib.hid (LD.out.below (below_setCells Hq14.out (kc K) 0 BA.out))
      have H14 := Lib.hid (show w.heap.size ≤ q14 from Nat.le_trans LD.out.W.t.size Hq14.out)
      have H514 := Lib.hid (show q5 < q14 from Nat.lt_of_lt_of_le LD.out.W.o5.lt Hq14.out)
      clear hHeld NK LA BA LD LR hwd Hq14
      generalize wa.setCells q14 0 (kc K) = w7 at K14 L14 ⊢
      go_upto_region 15 with fail
      obtain ⟨tk, htk⟩ : ∃ tk, K ra = tk := ⟨_, rfl⟩
      have HTK := Lib.hid htk
      have HJK := Lib.hid (show JR tk from htk ▸ HKR.out ra)
      have hg := kc_get K HRA.out
      rw [htk] at hg
      clear htk
      obtain ⟨kk, kl, kh, km⟩ := tk
      dsimp only at hg
      obtain ⟨RR, hRR⟩ : ∃ RR, wayT ⟨op, dd, ra, b, m⟩ K true = RR := ⟨_, rfl⟩
      have HRF := Lib.hid (show ∀ w, Calls Tryz.prog 93 #[.int .i64 op, Sp.spVal (uv kl) (uv kh), Sp.spVal (uv sl) (uv sh), .bool true] w fun e w' => e = .returned (.tuple #[Sp.spVal (uv RR.1.1) (uv RR.1.2), .bool RR.2]) ∧ Below w.heap.size w w' from fun w => by
       have h1 := Sp.ref_any op w kl kh sl sh true HDK.out HJK.out HSJ.out
       have h2 : wayT ⟨op, dd, ra, b, m⟩ K true = Sp.refR op kl kh sl sh true := by unfold wayT; rw [HS9.out]; dsimp only; rw [Int.toNat_natCast, HTK.out]
       rw [← h2, hRR] at h1
       exact h1)
      have HRR := Lib.hid hRR
      clear hRR
      obtain ⟨⟨rl, rh⟩, ok⟩ := RR
      unfold Sp.spVal at HRF
      dsimp only at HRF
      go_cut [13, 15, 16] (fun s13 s15 s16 w' => ∃ q15, s13 = .int .i64 ((p + dd + 1 : Nat) : Int) ∧ s15 = .pointer (some ⟨q15, 0, none⟩) ∧ s16 = .bool ok ∧ LSt w w' g gc ga n nc na mV (.slice (some ⟨bc, oc, none⟩) n cc) lV C N q5 q6 q10 qb K ⟨op, dd, ra, b, m⟩ ⟨sk, sl, sh, sm⟩ ∧ Ob w' q14 136 (kc K) ∧ Ob w' q15 132 [.int .u64 (uv rl), .int .u64 (uv rh)])
      case first =>
       have KS := Lib.hid (show ∀ w', Below w7.heap.size w7 w' → (w'.cell? ⟨q6, 0, none⟩ = some (.int .i64 op) ∧ w'.cell? ⟨q6, 2, none⟩ = some (.int .i64 (ra : Int)) ∧ w'.cell? ⟨q5, ra * 4 + 1, none⟩ = some (.int .u64 (uv kl)) ∧ w'.cell? ⟨q5, ra * 4 + 2, none⟩ = some (.int .u64 (uv kh)) ∧ w'.cell? ⟨q10, 1, none⟩ = some (.int .u64 (uv sl)) ∧ w'.cell? ⟨q10, 2, none⟩ = some (.int .u64 (uv sh))) from fun w' hb => ⟨(L14.out.below hb).W.o6.cell 0, (L14.out.below hb).W.o6.cell 2, ((L14.out.below hb).W.o5.cell _).trans hg.2.1, ((L14.out.below hb).W.o5.cell _).trans hg.2.2.1, (L14.out.below hb).s.cell 1, (L14.out.below hb).s.cell 2⟩)
       clear hg
       obtain ⟨wd, hwd⟩ : ∃ wd, w7.drew = wd := ⟨_, rfl⟩
       have BD := Lib.hid (show Below w7.heap.size w7 wd from hwd ▸ below_drewN (Below.refl w7.heap.size w7) 1)
       refine wp_region_held_drew (S := fun w' => (w'.cell? ⟨q6, 0, none⟩ = some (.int .i64 op) ∧ w'.cell? ⟨q6, 2, none⟩ = some (.int .i64 (ra : Int)) ∧ w'.cell? ⟨q5, ra * 4 + 1, none⟩ = some (.int .u64 (uv kl)) ∧ w'.cell? ⟨q5, ra * 4 + 2, none⟩ = some (.int .u64 (uv kh)) ∧ w'.cell? ⟨q10, 1, none⟩ = some (.int .u64 (uv sl)) ∧ w'.cell? ⟨q10, 2, none⟩ = some (.int .u64 (uv sh)))) (by kernel_rfl) (hwd ▸ KS.out wd BD.out) (fun hHeld => ?_)
       refine tkq 0 69 rfl (by kernel_rfl) (by rfl) hHeld (fun _ _ _ h => h) (by intro w' hSw; go_simp; try with_reducible rfl) ?_
       simp only [Act.put, spa, spb, spc]
       refine tkq 1 70 rfl (by kernel_rfl) (by rfl) hHeld (fun _ _ _ h => h) (by intro w' hSw; go_simp; try with_reducible rfl) ?_
       simp only [Act.put, spa, spb, spc]
       refine tkq 2 71 rfl (by kernel_rfl) (by rfl) hHeld (fun _ _ _ h => h) (by intro w' hSw; go_simp; try with_reducible rfl) ?_
       simp only [Act.put, spa, spb, spc]
       refine tkq 3 72 rfl (by kernel_rfl) (by rfl) hHeld (fun _ _ _ h => h) (by intro w' hSw; go_simp; try with_reducible rfl) ?_
       simp only [Act.put, spa, spb, spc]
       refine tkq 4 73 rfl (by kernel_rfl) (by rfl) hHeld (fun _ _ _ h => h) (by intro w' hSw; go_simp; try with_reducible rfl) ?_
       simp only [Act.put, spa, spb, spc]
       refine tkq 5 74 rfl (by kernel_rfl) (by rfl) hHeld (fun _ _ _ h => h) (by intro w' hSw; go_simp; try with_reducible rfl) ?_
       simp only [Act.put, spa, spb, spc]
       refine tkq 6 75 rfl (by kernel_rfl) (by rfl) hHeld (fun _ _ _ h => h) (by intro w' hSw; go_simp; try with_reducible rfl) ?_
       simp only [Act.put, spa, spb, spc]
       refine tkq 7 76 rfl (by kernel_rfl) (by rfl) hHeld (fun _ _ _ h => h) (by intro w' hSw; go_simp; try with_reducible rfl) ?_
       simp only [Act.put, spa, spb, spc]
       refine tkq 8 77 rfl (by kernel_rfl) (by rfl) hHeld (fun _ _ _ h => h) (by intro w' hSw; go_simp; try with_reducible rfl) ?_
       simp only [Act.put, spa, spb, spc]
       refine tkq 9 78 rfl (by kernel_rfl) (by rfl) hHeld (fun _ _ _ h => h) (by intro w' hSw; go_simp; try with_reducible rfl) ?_
       simp only [Act.put, spa, spb, spc]
       refine wpAnyH_ready (rs := [10, 14]) (by kernel_rfl) (by simp) ?_
       refine AllReadyH.cons (o := ⟨some 79, _, _, _, _, _⟩) rfl (fun K' hK => ?_) ?_
       · go_simp
         refine (HRF.out _).mono ?_
         rintro e wx ⟨rfl, bx⟩
         have BX := Lib.hid (BD.out.trans (bx.mono BD.out.size))
         clear bx
         dsimp only
         refine hK.out _ _ (KS.out _ BX.out) (fun hHeld => ?_)
         clear hK K'
         refine tkq 11 68 rfl (by kernel_rfl) (by rfl) hHeld (fun _ _ _ h => h) (by intro w' hSw; go_simp; try with_reducible rfl) ?_
         simp only [Act.put, spa, spb, spc]
         refine tkq 12 80 rfl (by kernel_rfl) (by rfl) hHeld (fun _ _ _ h => h) (by intro w' hSw; go_simp; try with_reducible rfl) ?_
         simp only [Act.put, spa, spb, spc]
         refine tkq 13 81 rfl (by kernel_rfl) (by rfl) hHeld (fun _ _ _ h => h) (by intro w' hSw; go_simp; try with_reducible rfl) ?_
         simp only [Act.put, spa, spb, spc]
         refine rdq 14 ⟨some 15, _, _, _, _, _⟩ (by kernel_rfl) rfl (fun K' hK => ?_)
         go_simp
         refine hK.out _ _ (KS.out _ (below_alloc BX.out (.cells #[.int .u64 0, .int .u64 0] 132))) (fun hHeld => ?_)
         clear hK K'
         clear hHeld
         have NR2 := Lib.hid (Ob.fresh wx 132 [.int .u64 0, .int .u64 0])
         have BB := Lib.hid (below_alloc (BX.out) (.cells #[.int .u64 0, .int .u64 0] 132))
         have Hq15 := Lib.hid (show w7.heap.size ≤ wx.heap.size by have := BX.out.size; omega)
         clear BX
         generalize (wx.alloc (.cells #[.int .u64 0, .int .u64 0] 132)) = wb at NR2 BB ⊢
         obtain ⟨q15, hq15⟩ : ∃ q15, wx.heap.size = q15 := ⟨_, rfl⟩
         rw [hq15] at NR2 Hq15 ⊢
         clear hq15
         have hHeld := KS.out _ BB.out
         refine rdq 15 ⟨none, _, _, _, _, _⟩ (by kernel_rfl) rfl (fun K' hK => ?_)
         have f0 := NR2.out.c0
         have f1 := NR2.out.c1
         have fz := NR2.out.frozen
         go_simp
         refine hK.out _ _ (KS.out _ (Below.setCell (Below.setCell BB.out (p := ⟨q15, 0, none⟩) Hq15.out (.int .u64 (uv rl))) (p := ⟨q15, 1, none⟩) Hq15.out (.int .u64 (uv rh)))) (fun hHeld => ?_)
         clear hK K'
         have BF := Lib.hid (Below.setCell (Below.setCell BB.out (p := ⟨q15, 0, none⟩) Hq15.out (.int .u64 (uv rl))) (p := ⟨q15, 1, none⟩) Hq15.out (.int .u64 (uv rh)))
         have RF := Lib.hid ((NR2.out.set_ 0 (.int .u64 (uv rl))).set_ 1 (.int .u64 (uv rh)))
         refine tkq 16 16 rfl (by kernel_rfl) (by rfl) hHeld (fun _ _ _ h => h) (by intro w' hSw; go_simp; try with_reducible rfl) ?_
         simp only [Act.put, spa, spb, spc]
         refine wpAnyH_done (by kernel_rfl) ?_ _
         go_wp2_with fail
         go_meet
         exact ⟨q15, by first | rfl | exact congrArg (Value.int .i64) (by push_cast; omega) | exact congrArg (Value.int .i64) gw, rfl, rfl, L14.out.below BF.out, K14.out.below BF.out K14.out.lt, RF.out⟩
       refine AllReadyH.cons (o := ⟨some 15, _, _, _, _, _⟩) rfl (fun K' hK => ?_) AllReadyH.nil
       go_simp
       refine hK.out _ _ (KS.out _ (below_alloc BD.out (.cells #[.int .u64 0, .int .u64 0] 132))) (fun hHeld => ?_)
       clear hK K'
       clear hHeld
       have NR := Lib.hid (Ob.fresh wd 132 [.int .u64 0, .int .u64 0])
       have BA := Lib.hid (below_alloc (BD.out) (.cells #[.int .u64 0, .int .u64 0] 132))
       have Hq15 := Lib.hid (show w7.heap.size ≤ wd.heap.size by have := BD.out.size; omega)
       clear BD
       generalize (wd.alloc (.cells #[.int .u64 0, .int .u64 0] 132)) = wa at NR BA ⊢
       obtain ⟨q15, hq15⟩ : ∃ q15, wd.heap.size = q15 := ⟨_, rfl⟩
       rw [hq15] at NR Hq15 ⊢
       clear hq15
       have hHeld := KS.out _ BA.out
       refine rdq 10 ⟨some 79, _, _, _, _, _⟩ (by kernel_rfl) rfl (fun K' hK => ?_)
       go_simp
       refine (HRF.out _).mono ?_
       rintro e wb ⟨rfl, bx⟩
       have BB := Lib.hid (BA.out.trans (bx.mono BA.out.size))
       have NR2 := Lib.hid (NR.out.below bx NR.out.lt)
       clear bx
       dsimp only
       refine hK.out _ _ (KS.out _ BB.out) (fun hHeld => ?_)
       clear hK K'
       refine tkq 11 68 rfl (by kernel_rfl) (by rfl) hHeld (fun _ _ _ h => h) (by intro w' hSw; go_simp; try with_reducible rfl) ?_
       simp only [Act.put, spa, spb, spc]
       refine tkq 12 80 rfl (by kernel_rfl) (by rfl) hHeld (fun _ _ _ h => h) (by intro w' hSw; go_simp; try with_reducible rfl) ?_
       simp only [Act.put, spa, spb, spc]
       refine tkq 13 81 rfl (by kernel_rfl) (by rfl) hHeld (fun _ _ _ h => h) (by intro w' hSw; go_simp; try with_reducible rfl) ?_
       simp only [Act.put, spa, spb, spc]
       refine rdq 15 ⟨none, _, _, _, _, _⟩ (by kernel_rfl) rfl (fun K' hK => ?_)
       have f0 := NR2.out.c0
       have f1 := NR2.out.c1
       have fz := NR2.out.frozen
       go_simp
       refine hK.out _ _ (KS.out _ (Below.setCell (Below.setCell BB.out (p := ⟨q15, 0, none⟩) Hq15.out (.int .u64 (uv rl))) (p := ⟨q15, 1, none⟩) Hq15.out (.int .u64 (uv rh)))) (fun hHeld => ?_)
       clear hK K'
       have BF := Lib.hid (Below.setCell (Below.setCell BB.out (p := ⟨q15, 0, none⟩) Hq15.out (.int .u64 (uv rl))) (p := ⟨q15, 1, none⟩) Hq15.out (.int .u64 (uv rh)))
       have RF := Lib.hid ((NR2.out.set_ 0 (.int .u64 (uv rl))).set_ 1 (.int .u64 (uv rh)))
       refine tkq 16 16 rfl (by kernel_rfl) (by rfl) hHeld (fun _ _ _ h => h) (by intro w' hSw; go_simp; try with_reducible rfl) ?_
       simp only [Act.put, spa, spb, spc]
       refine wpAnyH_done (by kernel_rfl) ?_ _
       go_wp2_with fail
       go_meet
       exact ⟨q15, by first | rfl | exact congrArg (Value.int .i64) (by push_cast; omega) | exact congrArg (Value.int .i64) gw, rfl, rfl, L14.out.below BF.out, K14.out.below BF.out K14.out.lt, RF.out⟩
      case rest =>
       obtain ⟨q15, rfl, rfl, rfl, hL, hK, hR⟩ := hcut
       have L8 := Lib.hid hL
       have K8 := Lib.hid hK
       have R8 := Lib.hid hR
       clear hL hK hR L14 K14 hg
       cases ok
       · have hCn : C1 = C := by rw [← HC1.out]; unfold wayC; rw [HRR.out]; rfl
         have hNn : N1 = N := by rw [← HN1.out]; unfold wayN; rw [HRR.out]; rfl
         have HCn := Lib.hid hCn
         have HNn := Lib.hid hNn
         clear hCn hNn
         go_wp2_with fail
         go_roundw
         case rel => exact Or.inr (Or.inl ⟨rfl, by rw [HCn.out, HNn.out]; exact L8.out⟩)
         case measure => decide
       go_upto_region 17 with fail
       have HNU := Lib.hid (fun w lo hi => number_any w lo hi)
       obtain ⟨wd, hwd⟩ : ∃ wd, wc.drew = wd := ⟨_, rfl⟩
       have LD := Lib.hid (hwd ▸ L8.out.drew)
       have KD := Lib.hid (hwd ▸ K8.out.drew)
       have RD := Lib.hid (hwd ▸ R8.out.drew)
       refine wp_region_held_drew (S := fun w' => (w'.cell? ⟨q6, 2, none⟩ = some (.int .i64 (ra : Int)) ∧ w'.cell? ⟨q15, 0, none⟩ = some (.int .u64 (uv rl)) ∧ w'.cell? ⟨q15, 1, none⟩ = some (.int .u64 (uv rh)))) (by kernel_rfl) (by rw [hwd]; exact ⟨LD.out.W.o6.cell 2, RD.out.cell 0, RD.out.cell 1⟩) (fun hHeld => ?_)
       refine tkq 0 83 rfl (by kernel_rfl) (by rfl) hHeld (fun _ _ _ h => h) (by intro w' hSw; go_simp; try with_reducible rfl) ?_
       simp only [Act.put, spa, spb, spc]
       refine tkq 1 84 rfl (by kernel_rfl) (by rfl) hHeld (fun _ _ _ h => h) (by intro w' hSw; go_simp; try with_reducible rfl) ?_
       simp only [Act.put, spa, spb, spc]
       refine tkq 2 85 rfl (by kernel_rfl) (by rfl) hHeld (fun _ _ _ h => h) (by intro w' hSw; go_simp; try with_reducible rfl) ?_
       simp only [Act.put, spa, spb, spc]
       refine rdq 3 ⟨some 86, _, _, _, _, _⟩ (by kernel_rfl) rfl (fun K' hK => ?_)
       go_simp
       refine (HNU.out _ rl rh).mono ?_
       rintro e wz ⟨rfl, bz⟩
       have LZ := Lib.hid (LD.out.below bz)
       have KZ := Lib.hid (KD.out.below bz KD.out.lt)
       have RZ := Lib.hid (RD.out.below bz RD.out.lt)
       clear bz
       dsimp only [jVal, numT]
       refine hK.out _ _ ⟨LZ.out.W.o6.cell 2, RZ.out.cell 0, RZ.out.cell 1⟩ (fun hHeld => ?_)
       clear hK K'
       refine tkq 4 87 rfl (by kernel_rfl) (by rfl) hHeld (fun _ _ _ h => h) (by intro w' hSw; go_simp; try with_reducible rfl) ?_
       simp only [Act.put, spa, spb, spc]
       refine rdq 5 ⟨none, _, _, _, _, _⟩ (by kernel_rfl) rfl (fun K' hK => ?_)
       have hg := kc_get K HRA.out
       have r0 := (KZ.out.cell _).trans hg.1
       have r1 := (KZ.out.cell _).trans hg.2.1
       have r2 := (KZ.out.cell _).trans hg.2.2.1
       have r3 := (KZ.out.cell _).trans hg.2.2.2
       have rz := KZ.out.frozen
       clear hg
       go_simp
       have TY := Lib.hid (show Tch (fun k => k = q14) wz ((((wz.setCell ⟨q14, ra * 4, none⟩ (.int .i64 1)).setCell ⟨q14, ra * 4 + 1, none⟩ (.int .u64 (uv rl))).setCell ⟨q14, ra * 4 + 2, none⟩ (.int .u64 (uv rh))).setCell ⟨q14, ra * 4 + 3, none⟩ (.int .i64 0)) from Tch.setCell (S := fun k => k = q14) (p := ⟨q14, ra * 4 + 3, none⟩) (Tch.setCell (S := fun k => k = q14) (p := ⟨q14, ra * 4 + 2, none⟩) (Tch.setCell (S := fun k => k = q14) (p := ⟨q14, ra * 4 + 1, none⟩) (Tch.setCell (S := fun k => k = q14) (p := ⟨q14, ra * 4, none⟩) (Tch.refl _ wz) rfl (.int .i64 1)) rfl (.int .u64 (uv rl))) rfl (.int .u64 (uv rh))) rfl (.int .i64 0))
       have LY := Lib.hid (LZ.out.apart TY.out KZ.out H14.out H514.out)
       have RY := Lib.hid (RZ.out.tch TY.out (fun e => (RZ.out.ne_ KZ.out (by decide)) e))
       refine hK.out _ _ ⟨LY.out.W.o6.cell 2, RY.out.cell 0, RY.out.cell 1⟩ (fun hHeld => ?_)
       clear hK K'
       clear hHeld r0 r1 r2 r3 rz
       have KY := Lib.hid (show Ob ((((wz.setCell ⟨q14, ra * 4, none⟩ (.int .i64 1)).setCell ⟨q14, ra * 4 + 1, none⟩ (.int .u64 (uv rl))).setCell ⟨q14, ra * 4 + 2, none⟩ (.int .u64 (uv rh))).setCell ⟨q14, ra * 4 + 3, none⟩ (.int .i64 0)) q14 136 (kc (updT K ra (numT rl rh))) from by rw [← kc_set K HRA.out (numT rl rh)]; exact (((KZ.out.set_ _ _).set_ _ _).set_ _ _).set_ _ _)
       clear TY
       refine wpAnyH_done (by kernel_rfl) ?_ _
       clear hwd LD KD RD LZ KZ RZ RY HNU L8 K8 R8
       generalize ((((wz.setCell ⟨q14, ra * 4, none⟩ (.int .i64 1)).setCell ⟨q14, ra * 4 + 1, none⟩ (.int .u64 (uv rl))).setCell ⟨q14, ra * 4 + 2, none⟩ (.int .u64 (uv rh))).setCell ⟨q14, ra * 4 + 3, none⟩ (.int .i64 0)) = w9 at LY KY ⊢
       obtain ⟨KW, hKW⟩ : ∃ KW, updT K ra (numT rl rh) = KW := ⟨_, rfl⟩
       have HJW := Lib.hid (show ∀ r, JR (KW r) from hKW ▸ (show ∀ r, JR (updT K ra (numT rl rh) r) from by
        have := wayK_right (i := ⟨op, dd, ra, b, m⟩) (h := true) HKR.out (by rw [HRR.out])
        unfold wayK at this
        rw [HRR.out] at this
        exact this))
       have hCn : comC C N (p + dd + 1) KW = C1 := by rw [← HC1.out, ← hKW]; unfold wayC wayK; rw [HRR.out]; rfl
       have hNn : updN N (p + dd + 1) = N1 := by rw [← HN1.out]; unfold wayN; rw [HRR.out]; rfl
       rw [hKW] at KY
       have HCn := Lib.hid hCn
       have HNn := Lib.hid hNn
       clear hKW hCn hNn
       have lk := Lib.hid (show w9.rangeAt q14 0 (kc KW) from fun j v hv => by rw [Nat.zero_add, KY.out.cell, hv])
       go_wp2_with ((with_reducible refine wpList_load_mid ?_ 136 (.tmp 14) ?_ q14 (0) ?_ (kc KW) (.array 8 134) lk.out ?_ ?_ ?_ ?_); rfl; rfl; rfl; kernel_rfl; rfl; (rw [known_info, kc_length]))
       refine (come_any w9 g gc ga n nc na mV (.slice (some ⟨bc, oc, none⟩) n cc) lV C N (p + dd + 1) KW HT1.out HM.out HCR.out HJW.out LY.out.J).mono ?_
       rintro e wq ⟨rfl, jq, tq⟩
       have LQ := Lib.hid (LY.out.tch tq jq)
       clear jq tq LY KY lk
       go_wp2_with fail
       go_roundw
       case rel => exact Or.inr (Or.inl ⟨rfl, by rw [← HCn.out, ← HNn.out]; exact LQ.out⟩)
       case measure => decide
    · have LR := Lib.hid hl
      clear hl LS
      obtain ⟨ra, hra⟩ : ∃ ra : Nat, a = ra := ⟨a.toNat, by have := HI.out.a0; dsimp only at this; omega⟩
      subst hra
      have hra8 : ra < 8 := by have := HI.out.a1; dsimp only at this; omega
      have g3 : (ra : Int) < 8 := by omega
      have g4 : (0 : Int) ≤ (ra : Int) := by omega
      have HRA := Lib.hid hra8
      clear hra8
      have bt : wr.cell? ⟨qb, 1, none⟩ = some (.bool false) := LR.out.b.cell 1
      have gw : wrap64 ((p : Int) + 1) = ((p + 1 : Nat) : Int) := by have h1 := HT0.out; have h2 := HM.out; unfold wrap64; push_cast; omega
      go_upto_region 12 with fail
      clear bt
      obtain ⟨wd, hwd⟩ : ∃ wd, wr.drew = wd := ⟨_, rfl⟩
      have LD := Lib.hid (hwd ▸ LR.out.drew)
      have BD := Lib.hid (Below.refl wd.heap.size wd)
      refine wp_region_held_drew (S := fun w' => (w'.rangeAt q5 0 (kc K))) (by kernel_rfl) (hwd ▸ LD.out.W.row) (fun hHeld => ?_)
      refine tkq 0 60 rfl (by kernel_rfl) (by rfl) hHeld (fun _ _ _ h => h) (by intro w' hSw; go_simp; try with_reducible rfl) ?_
      simp only [Act.put, spa, spb, spc]
      refine tkq 1 61 rfl (by kernel_rfl) (by rfl) hHeld (fun _ _ _ h => h) (by intro w' hSw; go_simp; try with_reducible rfl) ?_
      simp only [Act.put, spa, spb, spc]
      refine tkq 2 62 rfl (by kernel_rfl) (by rfl) hHeld (fun _ _ _ h => h) (by intro w' hSw; go_simp; try with_reducible rfl) ?_
      simp only [Act.put, spa, spb, spc]
      refine wpAnyH_take (i := 3) (oi := ⟨some 63, .load 136 (.tmp 5), _, _, _, none⟩) (v := .agg (kc K).toArray) rfl (by kernel_rfl) (by kernel_rfl) (by kernel_rfl) (fun _ _ _ h => h) (yieldsIf_load_mid (by rfl) 136 (.tmp 5) rfl q5 (0) rfl (kc K) (.array 8 134) (fun w' h => h) (by kernel_rfl) rfl (by rw [known_info, kc_length])) (by assumption) ?_
      simp only [Act.put, spa, spb, spc]
      refine rdq 4 ⟨some 14, _, _, _, _, _⟩ (by kernel_rfl) rfl (fun K' hK => ?_)
      go_simp
      refine hK.out _ _ (keepR2 (below_alloc BD.out (.cells #[.int .i64 0, .int .u64 0, .int .u64 0, .int .i64 0, .int .i64 0, .int .u64 0, .int .u64 0, .int .i64 0, .int .i64 0, .int .u64 0, .int .u64 0, .int .i64 0, .int .i64 0, .int .u64 0, .int .u64 0, .int .i64 0, .int .i64 0, .int .u64 0, .int .u64 0, .int .i64 0, .int .i64 0, .int .u64 0, .int .u64 0, .int .i64 0, .int .i64 0, .int .u64 0, .int .u64 0, .int .i64 0, .int .i64 0, .int .u64 0, .int .u64 0, .int .i64 0] 136)) LD.out.W.row) (fun hHeld => ?_)
      clear hK K'
      clear hHeld
      have NK := Lib.hid (Ob.fresh wd 136 [.int .i64 0, .int .u64 0, .int .u64 0, .int .i64 0, .int .i64 0, .int .u64 0, .int .u64 0, .int .i64 0, .int .i64 0, .int .u64 0, .int .u64 0, .int .i64 0, .int .i64 0, .int .u64 0, .int .u64 0, .int .i64 0, .int .i64 0, .int .u64 0, .int .u64 0, .int .i64 0, .int .i64 0, .int .u64 0, .int .u64 0, .int .i64 0, .int .i64 0, .int .u64 0, .int .u64 0, .int .i64 0, .int .i64 0, .int .u64 0, .int .u64 0, .int .i64 0])
      have BA := Lib.hid (below_alloc (BD.out) (.cells #[.int .i64 0, .int .u64 0, .int .u64 0, .int .i64 0, .int .i64 0, .int .u64 0, .int .u64 0, .int .i64 0, .int .i64 0, .int .u64 0, .int .u64 0, .int .i64 0, .int .i64 0, .int .u64 0, .int .u64 0, .int .i64 0, .int .i64 0, .int .u64 0, .int .u64 0, .int .i64 0, .int .i64 0, .int .u64 0, .int .u64 0, .int .i64 0, .int .i64 0, .int .u64 0, .int .u64 0, .int .i64 0, .int .i64 0, .int .u64 0, .int .u64 0, .int .i64 0] 136))
      have Hq14 := Lib.hid (show wd.heap.size ≤ wd.heap.size by have := BD.out.size; omega)
      clear BD
      generalize (wd.alloc (.cells #[.int .i64 0, .int .u64 0, .int .u64 0, .int .i64 0, .int .i64 0, .int .u64 0, .int .u64 0, .int .i64 0, .int .i64 0, .int .u64 0, .int .u64 0, .int .i64 0, .int .i64 0, .int .u64 0, .int .u64 0, .int .i64 0, .int .i64 0, .int .u64 0, .int .u64 0, .int .i64 0, .int .i64 0, .int .u64 0, .int .u64 0, .int .i64 0, .int .i64 0, .int .u64 0, .int .u64 0, .int .i64 0, .int .i64 0, .int .u64 0, .int .u64 0, .int .i64 0] 136)) = wa at NK BA ⊢
      obtain ⟨q14, hq14⟩ : ∃ q14, wd.heap.size = q14 := ⟨_, rfl⟩
      have Hq14 := Lib.hid (Nat.le_of_eq hq14)
      rw [hq14] at NK ⊢
      clear hq14
      have LA := Lib.hid (LD.out.below BA.out)
      have hHeld := LA.out.W.row
      refine tkq 5 13 rfl (by kernel_rfl) (by rfl) hHeld (fun _ _ _ h => h) (by intro w' hSw; go_simp; try with_reducible rfl) ?_
      simp only [Act.put, spa, spb, spc]
      refine rdq 6 ⟨none, _, _, _, _, _⟩ (by kernel_rfl) rfl (fun K' hK => ?_)
      rw [if_pos (by rfl)]
      have HTH : wa.there q14 0 32 := fun j hj => ⟨by rw [Nat.zero_add, NK.out.cell, ← kc_zero2, kc_rg, rg_get _ _ hj]; rfl, by rw [Nat.zero_add]; exact NK.out.frozen _⟩
      refine wp_store_mid 136 (.tmp 14) (.tmp 63) rfl q14 0 (kc K).toArray rfl rfl (by simpa [kc_length] using HTH) (by rw [known_info]; simp [kc_length]) (all_oneCell_toArray (kc_one K)) ?_
      change K' _ (World.setCells wa q14 0 (kc K))
      refine hK.out _ _ (LD.out.below (below_setCells Hq14.out (kc K) 0 BA.out)).W.row (fun hHeld => ?_)
      clear hK K'
      refine wpAnyH_done (by kernel_rfl) ?_ _
      have K14 := Lib.hid (ob_over NK.out (show (kc K).length = _ from rfl))
      have L14 := Lib.hid (LD.out.below (below_setCells Hq14.out (kc K) 0 BA.out))
      have H14 := Lib.hid (show w.heap.size ≤ q14 from Nat.le_trans LD.out.W.t.size Hq14.out)
      have H514 := Lib.hid (show q5 < q14 from Nat.lt_of_lt_of_le LD.out.W.o5.lt Hq14.out)
      clear hHeld NK LA BA LD LR hwd Hq14
      generalize wa.setCells q14 0 (kc K) = w7 at K14 L14 ⊢
      go_upto_region 15 with fail
      obtain ⟨tk, htk⟩ : ∃ tk, K ra = tk := ⟨_, rfl⟩
      have HTK := Lib.hid htk
      have HJK := Lib.hid (show JR tk from htk ▸ HKR.out ra)
      have hg := kc_get K HRA.out
      rw [htk] at hg
      clear htk
      obtain ⟨kk, kl, kh, km⟩ := tk
      dsimp only at hg
      obtain ⟨RR, hRR⟩ : ∃ RR, wayT ⟨op, dd, ra, b, m⟩ K false = RR := ⟨_, rfl⟩
      have HRF := Lib.hid (show ∀ w, Calls Tryz.prog 93 #[.int .i64 op, Sp.spVal (uv kl) (uv kh), Sp.spVal (uv sl) (uv sh), .bool false] w fun e w' => e = .returned (.tuple #[Sp.spVal (uv RR.1.1) (uv RR.1.2), .bool RR.2]) ∧ Below w.heap.size w w' from fun w => by
       have h1 := Sp.ref_any op w kl kh sl sh false HDK.out HJK.out HSJ.out
       have h2 : wayT ⟨op, dd, ra, b, m⟩ K false = Sp.refR op kl kh sl sh false := by unfold wayT; rw [HS9.out]; dsimp only; rw [Int.toNat_natCast, HTK.out]
       rw [← h2, hRR] at h1
       exact h1)
      have HRR := Lib.hid hRR
      clear hRR
      obtain ⟨⟨rl, rh⟩, ok⟩ := RR
      unfold Sp.spVal at HRF
      dsimp only at HRF
      go_cut [13, 15, 16] (fun s13 s15 s16 w' => ∃ q15, s13 = .int .i64 ((p + 1 : Nat) : Int) ∧ s15 = .pointer (some ⟨q15, 0, none⟩) ∧ s16 = .bool ok ∧ LSt w w' g gc ga n nc na mV (.slice (some ⟨bc, oc, none⟩) n cc) lV C1 N1 q5 q6 q10 qb K ⟨op, dd, ra, b, m⟩ ⟨sk, sl, sh, sm⟩ ∧ Ob w' q14 136 (kc K) ∧ Ob w' q15 132 [.int .u64 (uv rl), .int .u64 (uv rh)])
      case first =>
       have KS := Lib.hid (show ∀ w', Below w7.heap.size w7 w' → (w'.cell? ⟨q6, 0, none⟩ = some (.int .i64 op) ∧ w'.cell? ⟨q6, 2, none⟩ = some (.int .i64 (ra : Int)) ∧ w'.cell? ⟨q5, ra * 4 + 1, none⟩ = some (.int .u64 (uv kl)) ∧ w'.cell? ⟨q5, ra * 4 + 2, none⟩ = some (.int .u64 (uv kh)) ∧ w'.cell? ⟨q10, 1, none⟩ = some (.int .u64 (uv sl)) ∧ w'.cell? ⟨q10, 2, none⟩ = some (.int .u64 (uv sh))) from fun w' hb => ⟨(L14.out.below hb).W.o6.cell 0, (L14.out.below hb).W.o6.cell 2, ((L14.out.below hb).W.o5.cell _).trans hg.2.1, ((L14.out.below hb).W.o5.cell _).trans hg.2.2.1, (L14.out.below hb).s.cell 1, (L14.out.below hb).s.cell 2⟩)
       clear hg
       obtain ⟨wd, hwd⟩ : ∃ wd, w7.drew = wd := ⟨_, rfl⟩
       have BD := Lib.hid (show Below w7.heap.size w7 wd from hwd ▸ below_drewN (Below.refl w7.heap.size w7) 1)
       refine wp_region_held_drew (S := fun w' => (w'.cell? ⟨q6, 0, none⟩ = some (.int .i64 op) ∧ w'.cell? ⟨q6, 2, none⟩ = some (.int .i64 (ra : Int)) ∧ w'.cell? ⟨q5, ra * 4 + 1, none⟩ = some (.int .u64 (uv kl)) ∧ w'.cell? ⟨q5, ra * 4 + 2, none⟩ = some (.int .u64 (uv kh)) ∧ w'.cell? ⟨q10, 1, none⟩ = some (.int .u64 (uv sl)) ∧ w'.cell? ⟨q10, 2, none⟩ = some (.int .u64 (uv sh)))) (by kernel_rfl) (hwd ▸ KS.out wd BD.out) (fun hHeld => ?_)
       refine tkq 0 69 rfl (by kernel_rfl) (by rfl) hHeld (fun _ _ _ h => h) (by intro w' hSw; go_simp; try with_reducible rfl) ?_
       simp only [Act.put, spa, spb, spc]
       refine tkq 1 70 rfl (by kernel_rfl) (by rfl) hHeld (fun _ _ _ h => h) (by intro w' hSw; go_simp; try with_reducible rfl) ?_
       simp only [Act.put, spa, spb, spc]
       refine tkq 2 71 rfl (by kernel_rfl) (by rfl) hHeld (fun _ _ _ h => h) (by intro w' hSw; go_simp; try with_reducible rfl) ?_
       simp only [Act.put, spa, spb, spc]
       refine tkq 3 72 rfl (by kernel_rfl) (by rfl) hHeld (fun _ _ _ h => h) (by intro w' hSw; go_simp; try with_reducible rfl) ?_
       simp only [Act.put, spa, spb, spc]
       refine tkq 4 73 rfl (by kernel_rfl) (by rfl) hHeld (fun _ _ _ h => h) (by intro w' hSw; go_simp; try with_reducible rfl) ?_
       simp only [Act.put, spa, spb, spc]
       refine tkq 5 74 rfl (by kernel_rfl) (by rfl) hHeld (fun _ _ _ h => h) (by intro w' hSw; go_simp; try with_reducible rfl) ?_
       simp only [Act.put, spa, spb, spc]
       refine tkq 6 75 rfl (by kernel_rfl) (by rfl) hHeld (fun _ _ _ h => h) (by intro w' hSw; go_simp; try with_reducible rfl) ?_
       simp only [Act.put, spa, spb, spc]
       refine tkq 7 76 rfl (by kernel_rfl) (by rfl) hHeld (fun _ _ _ h => h) (by intro w' hSw; go_simp; try with_reducible rfl) ?_
       simp only [Act.put, spa, spb, spc]
       refine tkq 8 77 rfl (by kernel_rfl) (by rfl) hHeld (fun _ _ _ h => h) (by intro w' hSw; go_simp; try with_reducible rfl) ?_
       simp only [Act.put, spa, spb, spc]
       refine tkq 9 78 rfl (by kernel_rfl) (by rfl) hHeld (fun _ _ _ h => h) (by intro w' hSw; go_simp; try with_reducible rfl) ?_
       simp only [Act.put, spa, spb, spc]
       refine wpAnyH_ready (rs := [10, 14]) (by kernel_rfl) (by simp) ?_
       refine AllReadyH.cons (o := ⟨some 79, _, _, _, _, _⟩) rfl (fun K' hK => ?_) ?_
       · go_simp
         refine (HRF.out _).mono ?_
         rintro e wx ⟨rfl, bx⟩
         have BX := Lib.hid (BD.out.trans (bx.mono BD.out.size))
         clear bx
         dsimp only
         refine hK.out _ _ (KS.out _ BX.out) (fun hHeld => ?_)
         clear hK K'
         refine tkq 11 68 rfl (by kernel_rfl) (by rfl) hHeld (fun _ _ _ h => h) (by intro w' hSw; go_simp; try with_reducible rfl) ?_
         simp only [Act.put, spa, spb, spc]
         refine tkq 12 80 rfl (by kernel_rfl) (by rfl) hHeld (fun _ _ _ h => h) (by intro w' hSw; go_simp; try with_reducible rfl) ?_
         simp only [Act.put, spa, spb, spc]
         refine tkq 13 81 rfl (by kernel_rfl) (by rfl) hHeld (fun _ _ _ h => h) (by intro w' hSw; go_simp; try with_reducible rfl) ?_
         simp only [Act.put, spa, spb, spc]
         refine rdq 14 ⟨some 15, _, _, _, _, _⟩ (by kernel_rfl) rfl (fun K' hK => ?_)
         go_simp
         refine hK.out _ _ (KS.out _ (below_alloc BX.out (.cells #[.int .u64 0, .int .u64 0] 132))) (fun hHeld => ?_)
         clear hK K'
         clear hHeld
         have NR2 := Lib.hid (Ob.fresh wx 132 [.int .u64 0, .int .u64 0])
         have BB := Lib.hid (below_alloc (BX.out) (.cells #[.int .u64 0, .int .u64 0] 132))
         have Hq15 := Lib.hid (show w7.heap.size ≤ wx.heap.size by have := BX.out.size; omega)
         clear BX
         generalize (wx.alloc (.cells #[.int .u64 0, .int .u64 0] 132)) = wb at NR2 BB ⊢
         obtain ⟨q15, hq15⟩ : ∃ q15, wx.heap.size = q15 := ⟨_, rfl⟩
         rw [hq15] at NR2 Hq15 ⊢
         clear hq15
         have hHeld := KS.out _ BB.out
         refine rdq 15 ⟨none, _, _, _, _, _⟩ (by kernel_rfl) rfl (fun K' hK => ?_)
         have f0 := NR2.out.c0
         have f1 := NR2.out.c1
         have fz := NR2.out.frozen
         go_simp
         refine hK.out _ _ (KS.out _ (Below.setCell (Below.setCell BB.out (p := ⟨q15, 0, none⟩) Hq15.out (.int .u64 (uv rl))) (p := ⟨q15, 1, none⟩) Hq15.out (.int .u64 (uv rh)))) (fun hHeld => ?_)
         clear hK K'
         have BF := Lib.hid (Below.setCell (Below.setCell BB.out (p := ⟨q15, 0, none⟩) Hq15.out (.int .u64 (uv rl))) (p := ⟨q15, 1, none⟩) Hq15.out (.int .u64 (uv rh)))
         have RF := Lib.hid ((NR2.out.set_ 0 (.int .u64 (uv rl))).set_ 1 (.int .u64 (uv rh)))
         refine tkq 16 16 rfl (by kernel_rfl) (by rfl) hHeld (fun _ _ _ h => h) (by intro w' hSw; go_simp; try with_reducible rfl) ?_
         simp only [Act.put, spa, spb, spc]
         refine wpAnyH_done (by kernel_rfl) ?_ _
         go_wp2_with fail
         go_meet
         exact ⟨q15, by first | rfl | exact congrArg (Value.int .i64) (by push_cast; omega) | exact congrArg (Value.int .i64) gw, rfl, rfl, L14.out.below BF.out, K14.out.below BF.out K14.out.lt, RF.out⟩
       refine AllReadyH.cons (o := ⟨some 15, _, _, _, _, _⟩) rfl (fun K' hK => ?_) AllReadyH.nil
       go_simp
       refine hK.out _ _ (KS.out _ (below_alloc BD.out (.cells #[.int .u64 0, .int .u64 0] 132))) (fun hHeld => ?_)
       clear hK K'
       clear hHeld
       have NR := Lib.hid (Ob.fresh wd 132 [.int .u64 0, .int .u64 0])
       have BA := Lib.hid (below_alloc (BD.out) (.cells #[.int .u64 0, .int .u64 0] 132))
       have Hq15 := Lib.hid (show w7.heap.size ≤ wd.heap.size by have := BD.out.size; omega)
       clear BD
       generalize (wd.alloc (.cells #[.int .u64 0, .int .u64 0] 132)) = wa at NR BA ⊢
       obtain ⟨q15, hq15⟩ : ∃ q15, wd.heap.size = q15 := ⟨_, rfl⟩
       rw [hq15] at NR Hq15 ⊢
       clear hq15
       have hHeld := KS.out _ BA.out
       refine rdq 10 ⟨some 79, _, _, _, _, _⟩ (by kernel_rfl) rfl (fun K' hK => ?_)
       go_simp
       refine (HRF.out _).mono ?_
       rintro e wb ⟨rfl, bx⟩
       have BB := Lib.hid (BA.out.trans (bx.mono BA.out.size))
       have NR2 := Lib.hid (NR.out.below bx NR.out.lt)
       clear bx
       dsimp only
       refine hK.out _ _ (KS.out _ BB.out) (fun hHeld => ?_)
       clear hK K'
       refine tkq 11 68 rfl (by kernel_rfl) (by rfl) hHeld (fun _ _ _ h => h) (by intro w' hSw; go_simp; try with_reducible rfl) ?_
       simp only [Act.put, spa, spb, spc]
       refine tkq 12 80 rfl (by kernel_rfl) (by rfl) hHeld (fun _ _ _ h => h) (by intro w' hSw; go_simp; try with_reducible rfl) ?_
       simp only [Act.put, spa, spb, spc]
       refine tkq 13 81 rfl (by kernel_rfl) (by rfl) hHeld (fun _ _ _ h => h) (by intro w' hSw; go_simp; try with_reducible rfl) ?_
       simp only [Act.put, spa, spb, spc]
       refine rdq 15 ⟨none, _, _, _, _, _⟩ (by kernel_rfl) rfl (fun K' hK => ?_)
       have f0 := NR2.out.c0
       have f1 := NR2.out.c1
       have fz := NR2.out.frozen
       go_simp
       refine hK.out _ _ (KS.out _ (Below.setCell (Below.setCell BB.out (p := ⟨q15, 0, none⟩) Hq15.out (.int .u64 (uv rl))) (p := ⟨q15, 1, none⟩) Hq15.out (.int .u64 (uv rh)))) (fun hHeld => ?_)
       clear hK K'
       have BF := Lib.hid (Below.setCell (Below.setCell BB.out (p := ⟨q15, 0, none⟩) Hq15.out (.int .u64 (uv rl))) (p := ⟨q15, 1, none⟩) Hq15.out (.int .u64 (uv rh)))
       have RF := Lib.hid ((NR2.out.set_ 0 (.int .u64 (uv rl))).set_ 1 (.int .u64 (uv rh)))
       refine tkq 16 16 rfl (by kernel_rfl) (by rfl) hHeld (fun _ _ _ h => h) (by intro w' hSw; go_simp; try with_reducible rfl) ?_
       simp only [Act.put, spa, spb, spc]
       refine wpAnyH_done (by kernel_rfl) ?_ _
       go_wp2_with fail
       go_meet
       exact ⟨q15, by first | rfl | exact congrArg (Value.int .i64) (by push_cast; omega) | exact congrArg (Value.int .i64) gw, rfl, rfl, L14.out.below BF.out, K14.out.below BF.out K14.out.lt, RF.out⟩
      case rest =>
       obtain ⟨q15, rfl, rfl, rfl, hL, hK, hR⟩ := hcut
       have L8 := Lib.hid hL
       have K8 := Lib.hid hK
       have R8 := Lib.hid hR
       clear hL hK hR L14 K14 hg
       cases ok
       · have hCn : CF = C1 := by rw [← HCF.out]; unfold wayC; rw [HRR.out]; rfl
         have hNn : NF = N1 := by rw [← HNF.out]; unfold wayN; rw [HRR.out]; rfl
         have HCn := Lib.hid hCn
         have HNn := Lib.hid hNn
         clear hCn hNn
         go_wp2_with fail
         go_roundw
         case rel => exact Or.inr (Or.inr ⟨rfl, by rw [HCn.out, HNn.out]; exact L8.out⟩)
         case measure => decide
       go_upto_region 17 with fail
       have HNU := Lib.hid (fun w lo hi => number_any w lo hi)
       obtain ⟨wd, hwd⟩ : ∃ wd, wc.drew = wd := ⟨_, rfl⟩
       have LD := Lib.hid (hwd ▸ L8.out.drew)
       have KD := Lib.hid (hwd ▸ K8.out.drew)
       have RD := Lib.hid (hwd ▸ R8.out.drew)
       refine wp_region_held_drew (S := fun w' => (w'.cell? ⟨q6, 2, none⟩ = some (.int .i64 (ra : Int)) ∧ w'.cell? ⟨q15, 0, none⟩ = some (.int .u64 (uv rl)) ∧ w'.cell? ⟨q15, 1, none⟩ = some (.int .u64 (uv rh)))) (by kernel_rfl) (by rw [hwd]; exact ⟨LD.out.W.o6.cell 2, RD.out.cell 0, RD.out.cell 1⟩) (fun hHeld => ?_)
       refine tkq 0 83 rfl (by kernel_rfl) (by rfl) hHeld (fun _ _ _ h => h) (by intro w' hSw; go_simp; try with_reducible rfl) ?_
       simp only [Act.put, spa, spb, spc]
       refine tkq 1 84 rfl (by kernel_rfl) (by rfl) hHeld (fun _ _ _ h => h) (by intro w' hSw; go_simp; try with_reducible rfl) ?_
       simp only [Act.put, spa, spb, spc]
       refine tkq 2 85 rfl (by kernel_rfl) (by rfl) hHeld (fun _ _ _ h => h) (by intro w' hSw; go_simp; try with_reducible rfl) ?_
       simp only [Act.put, spa, spb, spc]
       refine rdq 3 ⟨some 86, _, _, _, _, _⟩ (by kernel_rfl) rfl (fun K' hK => ?_)
       go_simp
       refine (HNU.out _ rl rh).mono ?_
       rintro e wz ⟨rfl, bz⟩
       have LZ := Lib.hid (LD.out.below bz)
       have KZ := Lib.hid (KD.out.below bz KD.out.lt)
       have RZ := Lib.hid (RD.out.below bz RD.out.lt)
       clear bz
       dsimp only [jVal, numT]
       refine hK.out _ _ ⟨LZ.out.W.o6.cell 2, RZ.out.cell 0, RZ.out.cell 1⟩ (fun hHeld => ?_)
       clear hK K'
       refine tkq 4 87 rfl (by kernel_rfl) (by rfl) hHeld (fun _ _ _ h => h) (by intro w' hSw; go_simp; try with_reducible rfl) ?_
       simp only [Act.put, spa, spb, spc]
       refine rdq 5 ⟨none, _, _, _, _, _⟩ (by kernel_rfl) rfl (fun K' hK => ?_)
       have hg := kc_get K HRA.out
       have r0 := (KZ.out.cell _).trans hg.1
       have r1 := (KZ.out.cell _).trans hg.2.1
       have r2 := (KZ.out.cell _).trans hg.2.2.1
       have r3 := (KZ.out.cell _).trans hg.2.2.2
       have rz := KZ.out.frozen
       clear hg
       go_simp
       have TY := Lib.hid (show Tch (fun k => k = q14) wz ((((wz.setCell ⟨q14, ra * 4, none⟩ (.int .i64 1)).setCell ⟨q14, ra * 4 + 1, none⟩ (.int .u64 (uv rl))).setCell ⟨q14, ra * 4 + 2, none⟩ (.int .u64 (uv rh))).setCell ⟨q14, ra * 4 + 3, none⟩ (.int .i64 0)) from Tch.setCell (S := fun k => k = q14) (p := ⟨q14, ra * 4 + 3, none⟩) (Tch.setCell (S := fun k => k = q14) (p := ⟨q14, ra * 4 + 2, none⟩) (Tch.setCell (S := fun k => k = q14) (p := ⟨q14, ra * 4 + 1, none⟩) (Tch.setCell (S := fun k => k = q14) (p := ⟨q14, ra * 4, none⟩) (Tch.refl _ wz) rfl (.int .i64 1)) rfl (.int .u64 (uv rl))) rfl (.int .u64 (uv rh))) rfl (.int .i64 0))
       have LY := Lib.hid (LZ.out.apart TY.out KZ.out H14.out H514.out)
       have RY := Lib.hid (RZ.out.tch TY.out (fun e => (RZ.out.ne_ KZ.out (by decide)) e))
       refine hK.out _ _ ⟨LY.out.W.o6.cell 2, RY.out.cell 0, RY.out.cell 1⟩ (fun hHeld => ?_)
       clear hK K'
       clear hHeld r0 r1 r2 r3 rz
       have KY := Lib.hid (show Ob ((((wz.setCell ⟨q14, ra * 4, none⟩ (.int .i64 1)).setCell ⟨q14, ra * 4 + 1, none⟩ (.int .u64 (uv rl))).setCell ⟨q14, ra * 4 + 2, none⟩ (.int .u64 (uv rh))).setCell ⟨q14, ra * 4 + 3, none⟩ (.int .i64 0)) q14 136 (kc (updT K ra (numT rl rh))) from by rw [← kc_set K HRA.out (numT rl rh)]; exact (((KZ.out.set_ _ _).set_ _ _).set_ _ _).set_ _ _)
       clear TY
       refine wpAnyH_done (by kernel_rfl) ?_ _
       clear hwd LD KD RD LZ KZ RZ RY HNU L8 K8 R8
       generalize ((((wz.setCell ⟨q14, ra * 4, none⟩ (.int .i64 1)).setCell ⟨q14, ra * 4 + 1, none⟩ (.int .u64 (uv rl))).setCell ⟨q14, ra * 4 + 2, none⟩ (.int .u64 (uv rh))).setCell ⟨q14, ra * 4 + 3, none⟩ (.int .i64 0)) = w9 at LY KY ⊢
       obtain ⟨KW, hKW⟩ : ∃ KW, updT K ra (numT rl rh) = KW := ⟨_, rfl⟩
       have HJW := Lib.hid (show ∀ r, JR (KW r) from hKW ▸ (show ∀ r, JR (updT K ra (numT rl rh) r) from by
        have := wayK_right (i := ⟨op, dd, ra, b, m⟩) (h := false) HKR.out (by rw [HRR.out])
        unfold wayK at this
        rw [HRR.out] at this
        exact this))
       have hCn : comC C1 N1 (p + 1) KW = CF := by rw [← HCF.out, ← hKW]; unfold wayC wayK; rw [HRR.out]; rfl
       have hNn : updN N1 (p + 1) = NF := by rw [← HNF.out]; unfold wayN; rw [HRR.out]; rfl
       rw [hKW] at KY
       have HCn := Lib.hid hCn
       have HNn := Lib.hid hNn
       clear hKW hCn hNn
       have lk := Lib.hid (show w9.rangeAt q14 0 (kc KW) from fun j v hv => by rw [Nat.zero_add, KY.out.cell, hv])
       go_wp2_with ((with_reducible refine wpList_load_mid ?_ 136 (.tmp 14) ?_ q14 (0) ?_ (kc KW) (.array 8 134) lk.out ?_ ?_ ?_ ?_); rfl; rfl; rfl; kernel_rfl; rfl; (rw [known_info, kc_length]))
       refine (come_any w9 g gc ga n nc na mV (.slice (some ⟨bc, oc, none⟩) n cc) lV C1 N1 (p + 1) KW HT0.out HM.out HCR1.out HJW.out LY.out.J).mono ?_
       rintro e wq ⟨rfl, jq, tq⟩
       have LQ := Lib.hid (LY.out.tch tq jq)
       clear jq tq LY KY lk
       go_wp2_with fail
       go_roundw
       case rel => exact Or.inr (Or.inr ⟨rfl, by rw [← HCn.out, ← HNn.out]; exact LQ.out⟩)
       case measure => decide
    go_wp2_with fail
    go_end0
    exact ⟨rfl, hl.J, hl.W.t⟩
 · replace HCF := Lib.hid (show comC C N (p + 1) K = CF from by rw [← HCF.out]; unfold waysC; rw [if_neg (by first | omega | (dsimp only; omega)), if_neg (by first | omega | (dsimp only; omega)), if_neg (by first | omega | (dsimp only; omega))])
   replace HNF := Lib.hid (show updN N (p + 1) = NF from by rw [← HNF.out]; unfold waysN; rw [if_neg (by first | omega | (dsimp only; omega)), if_neg (by first | omega | (dsimp only; omega)), if_neg (by first | omega | (dsimp only; omega))])
   have HTO := Lib.hid (show p + 1 < n from HON.out (by first | omega | (dsimp only; omega)) (by first | omega | (dsimp only; omega)))
   obtain ⟨dd, rfl⟩ : ∃ dd : Nat, d = dd := ⟨d.toNat, by have := HI.out.d0; dsimp only at this; omega⟩
   have gt1 : 0 < dd := by have := (HI.out.l ho).1; dsimp only at this; omega
   have gt2 : wrap64 ((p : Int) + 1) = ((p + 1 : Nat) : Int) := by have h1 := HTO.out; have h2 := HM.out; unfold wrap64; push_cast; omega
   clear ho
   have lk := Lib.hid W3.out.row
   go_wp2_with ((with_reducible refine wpList_load_mid ?_ 136 (.tmp 5) ?_ q5 (0) ?_ (kc K) (.array 8 134) lk.out ?_ ?_ ?_ ?_); rfl; rfl; rfl; kernel_rfl; rfl; (rw [known_info, kc_length]))
   refine (come_any w3 g gc ga n nc na mV (.slice (some ⟨bc, oc, none⟩) n cc) lV C N (p + 1) K HTO.out HM.out HCR.out HKR.out J3.out).mono ?_
   rintro e wq ⟨rfl, jq, tq⟩
   have JQ := Lib.hid jq
   have TQ := Lib.hid tq
   clear jq tq
   go_wp2_with fail
   exact bodyPost_ret (v := .tuple #[]) (by simp [results, Tryz.results56, go_sem]) rfl ⟨rfl, by rw [HCF.out, HNF.out] at JQ; exact JQ.out, JTch.trans W3.out.t TQ.out⟩
 replace HCF := Lib.hid (show comC C N (p + 1) K = CF from by rw [← HCF.out]; unfold waysC; rw [if_neg (by first | omega | (dsimp only; omega)), if_neg (by first | omega | (dsimp only; omega)), if_neg (by first | omega | (dsimp only; omega))])
 replace HNF := Lib.hid (show updN N (p + 1) = NF from by rw [← HNF.out]; unfold waysN; rw [if_neg (by first | omega | (dsimp only; omega)), if_neg (by first | omega | (dsimp only; omega)), if_neg (by first | omega | (dsimp only; omega))])
 have HTO := Lib.hid (show p + 1 < n from HON.out (by first | omega | (dsimp only; omega)) (by first | omega | (dsimp only; omega)))
 have gt2 : wrap64 ((p : Int) + 1) = ((p + 1 : Nat) : Int) := by have h1 := HTO.out; have h2 := HM.out; unfold wrap64; push_cast; omega
 clear ho
 have lk := Lib.hid W3.out.row
 go_wp2_with ((with_reducible refine wpList_load_mid ?_ 136 (.tmp 5) ?_ q5 (0) ?_ (kc K) (.array 8 134) lk.out ?_ ?_ ?_ ?_); rfl; rfl; rfl; kernel_rfl; rfl; (rw [known_info, kc_length]))
 refine (come_any w3 g gc ga n nc na mV (.slice (some ⟨bc, oc, none⟩) n cc) lV C N (p + 1) K HTO.out HM.out HCR.out HKR.out J3.out).mono ?_
 rintro e wq ⟨rfl, jq, tq⟩
 have JQ := Lib.hid jq
 have TQ := Lib.hid tq
 clear jq tq
 go_wp2_with fail
 exact bodyPost_ret (v := .tuple #[]) (by simp [results, Tryz.results56, go_sem]) rfl ⟨rfl, by rw [HCF.out, HNF.out] at JQ; exact JQ.out, JTch.trans W3.out.t TQ.out⟩

end Go.Proofs.YtikkmkomlajnfaaGreatDoor.Jd
end
