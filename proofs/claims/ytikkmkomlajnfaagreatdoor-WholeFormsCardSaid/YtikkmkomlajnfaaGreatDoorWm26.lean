/-
  Layer 11: a machine's trace, of any module. Conditions: those of each theorem.
-/
import Derived.Test.YtikkmkomlajnfaaGreatDoorWm01
import Derived.Test.YtikkmkomlajnfaaGreatDoorWm25
set_option linter.unusedVariables false
set_option linter.unusedSimpArgs false
section
namespace Go.Proofs.YtikkmkomlajnfaaGreatDoor.Wf
set_option maxRecDepth 100000
set_option maxHeartbeats 8000000
open Go.RowKit
open Go.Proofs.YtikkmkomlajnfaaGreatDoor.Op (InstV insc insVal inss ins0 ins_at rightV right_is RightI Frm costV checkV CheckI check_is)
open Go.Proofs.YtikkmkomlajnfaaGreatDoor.En (StV rg MAt mcell st0 Tg ActV acc acVal ac0 ofI wrapu srcU runS runD stepS stepA callS callA okI okC keepS sl_tch ints newbad_any new_any step_any answer_any ansS ResOk)
open Go.Proofs.YtikkmkomlajnfaaGreatDoor.Sg (ResV rec_ reVal)
open Go.Proofs.YtikkmkomlajnfaaGreatDoor.Jd (judV)

theorem own_tchB {B : Nat → Prop} {w w' : World} {base : Nat} {e : TypeId} {size n : Nat} {v : Value} {xs : List Value} (h : w.ownsRow base e size v n xs) (k : Tch B w w') (hn : ∀ i, B i → i < base) : w'.ownsRow base e size v n xs := by
 obtain ⟨h1, h2⟩ := h
 refine ⟨h1, ?_⟩
 rcases h2 with h2 | ⟨g, cap, cur, hv, hg, hh, r⟩
 · exact .inl h2
 have hlt : g < w.heap.size := by
  rcases Nat.lt_or_ge g w.heap.size with hx | hx
  · exact hx
  rw [Array.getElem?_eq_none hx] at hh; cases hh
 refine .inr ⟨g, cap, cur, hv, hg, (k.block g hlt fun hb => ?_).trans hh, r⟩
 have := hn g hb
 omega
theorem own_base {w : World} {b base : Nat} {e : TypeId} {size n : Nat} {v : Value} {xs : List Value} (h : w.ownsRow base e size v n xs) (hb : b ≤ base) : w.ownsRow b e size v n xs := by
 obtain ⟨h1, h2⟩ := h
 refine ⟨h1, ?_⟩
 rcases h2 with h2 | ⟨g, cap, cur, hv, hg, r⟩
 · exact .inl h2
 exact .inr ⟨g, cap, cur, hv, Nat.le_trans hb hg, r⟩
def lenV : Value → Nat
 | .slice _ n _ => n
 | _ => 0
theorem own_len {w : World} {base : Nat} {e : TypeId} {size n : Nat} {v : Value} {xs : List Value} (h : w.ownsRow base e size v n xs) : lenV v = n := by
 obtain ⟨A, c, rfl, _⟩ := own_form h
 rfl
def recs (rs : List ResV) : List Value := rs.flatMap rec_
theorem recs_length (rs : List ResV) : (recs rs).length = rs.length * 6 := flat_length rec_ 6 (fun _ => rfl) rs
/-- the first of them, and the others -/
theorem rec_head {w : World} {A : Option Addr} {r : ResV} {t : List ResV} (h : Sl w A (recs (r :: t))) : ∃ b o, A = some ⟨b, o, none⟩ ∧ b < w.heap.size ∧ w.cell? ⟨b, o, none⟩ = some (.int .i64 r.e) ∧ w.cell? ⟨b, o + 1, none⟩ = some (.bool r.found) ∧
 w.cell? ⟨b, o + 2, none⟩ = some (.int .u64 r.val) ∧ w.cell? ⟨b, o + 3, none⟩ = some (.bool r.isOut) ∧ w.cell? ⟨b, o + 4, none⟩ = some (.int .u64 r.ok) ∧ w.cell? ⟨b, o + 5, none⟩ = some (.int .u64 r.ov) ∧ Sl w (some ⟨b, o + 6, none⟩) (recs t) := by
 have e : recs (r :: t) = rec_ r ++ recs t := List.flatMap_cons
 obtain ⟨b, o, ha, hc⟩ := h (by rw [e, List.length_append]; exact Nat.lt_of_lt_of_le (show 0 < (rec_ r).length from Nat.succ_pos _) (Nat.le_add_right _ _))
 have hl : (recs (r :: t)).length = 6 + (recs t).length := by rw [e, List.length_append]; rfl
 refine ⟨b, o, ha, cell_lt (hc 0 (by omega)), hc 0 (by omega), hc 1 (by omega), hc 2 (by omega), hc 3 (by omega), hc 4 (by omega), hc 5 (by omega), Sl.mk fun j hj => ?_⟩
 have := hc (6 + j) (by omega)
 rw [e] at this
 rw [show o + 6 + j = o + (6 + j) by omega, this, List.getD_eq_getElem?_getD, List.getD_eq_getElem?_getD, List.getElem?_append_right (by show (6 : Nat) ≤ 6 + j; omega)]
 rw [show 6 + j - (rec_ r).length = j from Nat.add_sub_cancel_left 6 j]
def accs (xs : List ActV) : List Value := xs.flatMap acc
theorem accs_app (xs : List ActV) (a : ActV) : accs (xs ++ [a]) = accs xs ++ acc a := by unfold accs; rw [List.flatMap_append]; simp
theorem act_parts : (Tryz.prog.info? 55).map (fun i => (i.zero, i.size, i.bytes)) = some (some (.agg #[.int .i64 0, .int .i64 0, .int .i64 0, .int .i64 0, .int .u64 0, .int .u64 0, .int .u64 0]), 7, 56) := by kernel_rfl
theorem acc_one (a : ActV) : ∀ u ∈ acc a, u.oneCell' = true := by
 intro u hu
 simp only [acc, List.mem_cons, List.mem_nil_iff, or_false] at hu
 rcases hu with rfl | rfl | rfl | rfl | rfl | rfl | rfl <;> rfl

theorem trbad_any (w : World) (ea eb : BitVec 64) (l : List InstV) (ms : List Int) (mA cA rA : Option Addr) (nm cm n c nr cr : Nat) (hn : n = l.length) (hnc : n ≤ c) (hnm : nm = ms.length) (hmc : nm ≤ cm) (hmm : nm ≤ 140737488351232)
 (hf : Frm w) (ht : Sg.Tab w) (hs : Sl w cA (inss l)) (hm : Sl w mA (ints ms)) (hj : (judV ms l).2 ≠ 0) :
 Calls Tryz.prog 12 #[.agg #[.slice mA nm cm, .slice cA n c], .agg #[.int .u64 (uv ea), .int .u64 (uv eb)], .slice rA nr cr] w fun e w' => e = .returned (.tuple #[.slice none 0 0, .int .i64 (judV ms l).2]) ∧ Below w.heap.size w w' := by
 have HNB := Lib.hid (fun w gs hf ht hs hm => newbad_any w gs ea eb l ms mA cA nm cm n c hn hnc hnm hmc hmm hf ht hs hm hj)
 obtain ⟨e0, hV⟩ : ∃ V, (judV ms l).2 = V := ⟨_, rfl⟩
 rw [hV] at HNB hj ⊢
 have hji : (e0 != 0) = true := by simpa using hj
 have HF := Lib.hid hf
 have HT := Lib.hid ht
 have HS := Lib.hid hs
 have HM := Lib.hid hm
 have B0 := Lib.hid (Below.refl w.heap.size w)
 clear hn hnc hnm hmc hmm hf ht hs hm hV hj
 go_enter Tryz.func12, Tryz.ntmps12
 go_upto_region 1 with fail
 have O3 := Lib.hid (Ob.alloc (Ob.fresh w 25 [.slice mA nm cm, .slice cA n c]) (.cells #[.int .u64 (uv ea), .int .u64 (uv eb)] 28))
 have O4 := Lib.hid (Ob.fresh (w.alloc (.cells #[.slice mA nm cm, .slice cA n c] 25)) 28 [.int .u64 (uv ea), .int .u64 (uv eb)])
 rw [show (w.alloc (.cells #[.slice mA nm cm, .slice cA n c] 25)).heap.size = w.heap.size + 1 by simp] at O4
 have B1 := Lib.hid (below_alloc (below_alloc (B0.out) (.cells #[.slice mA nm cm, .slice cA n c] 25)) (.cells #[.int .u64 (uv ea), .int .u64 (uv eb)] 28))
 have Hq3 := Lib.hid (show w.heap.size ≤ w.heap.size by have := B0.out.size; omega)
 have Hq4 := Lib.hid (show w.heap.size ≤ w.heap.size + 1 by have := B0.out.size; omega)
 clear B0
 generalize ((w.alloc (.cells #[.slice mA nm cm, .slice cA n c] 25)).alloc (.cells #[.int .u64 (uv ea), .int .u64 (uv eb)] 28)) = w1 at O3 O4 B1 ⊢
 obtain ⟨q4, hq4⟩ : ∃ q4, w.heap.size + 1 = q4 := ⟨_, rfl⟩
 rw [hq4] at O4 Hq4 ⊢
 clear hq4
 obtain ⟨q3, hq3⟩ : ∃ q3, w.heap.size = q3 := ⟨_, rfl⟩
 have Hq3 := Lib.hid (Nat.le_of_eq hq3)
 rw [hq3] at O3 ⊢
 clear hq3
 have KS := Lib.hid (show ∀ w', Below w1.heap.size w1 w' → (w'.cell? ⟨q3, 0, none⟩ = some (.slice mA nm cm) ∧ w'.cell? ⟨q3, 1, none⟩ = some (.slice cA n c) ∧ w'.cell? ⟨q4, 0, none⟩ = some (.int .u64 (uv ea)) ∧ w'.cell? ⟨q4, 1, none⟩ = some (.int .u64 (uv eb))) from fun w' hb => ⟨(O3.out.below hb O3.out.lt).cell 0, (O3.out.below hb O3.out.lt).cell 1, (O4.out.below hb O4.out.lt).cell 0, (O4.out.below hb O4.out.lt).cell 1⟩)
 obtain ⟨wd, hwd⟩ : ∃ wd, w1.drew = wd := ⟨_, rfl⟩
 have BD := Lib.hid (show Below w1.heap.size w1 wd from hwd ▸ below_drewN (Below.refl w1.heap.size w1) 1)
 have LD := Lib.hid (show w1.heap.size ≤ wd.heap.size from BD.out.size)
 refine wp_region_held_drew (S := fun w' => (w'.cell? ⟨q3, 0, none⟩ = some (.slice mA nm cm) ∧ w'.cell? ⟨q3, 1, none⟩ = some (.slice cA n c) ∧ w'.cell? ⟨q4, 0, none⟩ = some (.int .u64 (uv ea)) ∧ w'.cell? ⟨q4, 1, none⟩ = some (.int .u64 (uv eb)))) (by kernel_rfl) (hwd ▸ KS.out wd BD.out) (fun hHeld => ?_)
 refine tkq 0 13 rfl (by kernel_rfl) (by rfl) hHeld (fun _ _ _ h => h) (by intro w' hSw; go_simp; try with_reducible rfl) ?_
 simp only [Act.put, spa, spb, spc]
 refine tkq 1 14 rfl (by kernel_rfl) (by rfl) hHeld (fun _ _ _ h => h) (by intro w' hSw; go_simp; try with_reducible rfl) ?_
 simp only [Act.put, spa, spb, spc]
 refine rdq 2 ⟨some 15, _, _, _, _, _⟩ (by kernel_rfl) rfl (fun K' hK => ?_)
 go_simp
 refine (Sc.new_any wd).mono ?_
 rintro e wx ⟨rfl, hx⟩
 have OX := Lib.hid (show Ob wx wd.heap.size 146 (arr 16 Sc.zz ++ (arr 16 Sc.zz ++ [])) from by rw [← hx]; exact Ob.fresh wd 146 _)
 have BX := Lib.hid (show Below w1.heap.size w1 wx from by rw [← hx]; exact below_alloc BD.out _)
 clear hx
 refine hK.out _ _ (KS.out _ BX.out) (fun hHeld => ?_)
 clear hK K'
 refine rdq 3 ⟨some 16, _, _, _, _, _⟩ (by kernel_rfl) rfl (fun K' hK => ?_)
 go_simp
 refine (HNB.out wx wd.heap.size (HF.out.below (B1.out.trans (BX.out.mono B1.out.size))) (HT.out.below (B1.out.trans (BX.out.mono B1.out.size))) (HS.out.below (B1.out.trans (BX.out.mono B1.out.size))) (HM.out.below (B1.out.trans (BX.out.mono B1.out.size)))).mono ?_
 rintro e wy ⟨rfl, by_⟩
 have BY := Lib.hid (BX.out.trans (by_.mono BX.out.size))
 clear by_
 refine hK.out _ _ (KS.out _ BY.out) (fun hHeld => ?_)
 clear hK K'
 refine tkq 4 12 rfl (by kernel_rfl) (by rfl) hHeld (fun _ _ _ h => h) (by intro w' hSw; go_simp; try with_reducible rfl) ?_
 simp only [Act.put, spa, spb, spc]
 refine tkq 5 17 rfl (by kernel_rfl) (by rfl) hHeld (fun _ _ _ h => h) (by intro w' hSw; go_simp; try with_reducible rfl) ?_
 simp only [Act.put, spa, spb, spc]
 refine tkq 6 18 rfl (by kernel_rfl) (by rfl) hHeld (fun _ _ _ h => h) (by intro w' hSw; go_simp; try with_reducible rfl) ?_
 simp only [Act.put, spa, spb, spc]
 refine tkq 7 8 rfl (by kernel_rfl) (by rfl) hHeld (fun _ _ _ h => h) (by intro w' hSw; go_simp; try with_reducible rfl) ?_
 simp only [Act.put, spa, spb, spc]
 refine tkq 8 9 rfl (by kernel_rfl) (by rfl) hHeld (fun _ _ _ h => h) (by intro w' hSw; go_simp; try with_reducible rfl) ?_
 simp only [Act.put, spa, spb, spc]
 refine wpAnyH_done (by kernel_rfl) ?_ _
 clear hHeld KS hwd
 go_wp2_with fail
 go_ret2
 exact ⟨rfl, B1.out.trans (BY.out.mono B1.out.size)⟩

theorem trace_any (w : World) (ea eb : BitVec 64) (l : List InstV) (ms : List Int) (rs : List ResV) (mA cA rA : Option Addr) (nm cm n c nr cr : Nat) (hn : n = l.length) (hnc : n ≤ c) (hnm : nm = ms.length) (hmc : nm ≤ cm) (hmm : nm ≤ 140737488351232) (hnr : nr = rs.length) (hrc : nr ≤ cr)
 (hf : Frm w) (ht : Sg.Tab w) (hs : Sl w cA (inss l)) (hm : Sl w mA (ints ms)) (hr : Sl w rA (recs rs)) (hro : ∀ r ∈ rs, ResOk r) (hcn : cA = none → n = 0 ∧ c = 0) (hmn : mA = none → nm = 0 ∧ cm = 0) (hca : ∀ a, cA = some a → a.block < w.heap.size) (hma : ∀ a, mA = some a → a.block < w.heap.size) (hj : (judV ms l).2 = 0) :
 Calls Tryz.prog 12 #[.agg #[.slice mA nm cm, .slice cA n c], .agg #[.int .u64 (uv ea), .int .u64 (uv eb)], .slice rA nr cr] w fun e w' => (∃ v, e = .returned (.tuple #[v, .int .i64 0]) ∧ w'.ownsRow w.heap.size 55 7 v (traceV ms l ea eb (costV l).toNat (st0 Sc.zz) rs).length (accs (traceV ms l ea eb (costV l).toNat (st0 Sc.zz) rs))) ∧ Below w.heap.size w w' := by
 obtain ⟨hgood, hck, T, Mk, htyp⟩ := Lw.judged_typed hj
 have HCI := Lib.hid (check_is hck)
 have HTY := Lib.hid htyp
 have H4 := Lib.hid (show ms.length ≤ 4 from Jd.good_len hgood)
 have HNW := Lib.hid (fun w gs hf ht hgf hgt hs hm hca hma ho => new_any w gs Sc.zz Sc.zz ea eb l ms mA cA nm cm n c hn hnc hnm hmc hmm hf ht hgf hgt hs hm hcn hmn hj (by have := (check_is hck).n1; omega) (by have := Jd.good_len hgood; omega) hca hma ho)
 obtain ⟨MO, hMO⟩ : ∃ MO : Nat, costV l = MO := ⟨_, Lw.cost_sum (check_is hck)⟩
 have HMO := Lib.hid hMO
 rw [hMO, Int.toNat_natCast]
 obtain ⟨X, hX⟩ : ∃ X, traceV ms l ea eb MO (st0 Sc.zz) rs = X := ⟨_, rfl⟩
 rw [hX]
 have HX := Lib.hid hX
 have HN := Lib.hid hn
 have HNM := Lib.hid hnm
 have HF := Lib.hid hf
 have HT := Lib.hid ht
 have HS := Lib.hid hs
 have HM := Lib.hid hm
 have HR := Lib.hid hr
 have HRO := Lib.hid hro
 have HRC := Lib.hid hrc
 have HCL := Lib.hid hca
 have HML := Lib.hid hma
 have HFL := Lib.hid (And.intro hf.lt ht.lt)
 have B0 := Lib.hid (Below.refl w.heap.size w)
 subst hnr
 clear hn hnc hnm hmc hmm hf ht hs hm hr hro hcn hmn hca hma hj hrc hgood hck htyp hMO hX
 obtain ⟨i0, hi0, hz0, hz1, hz2⟩ := info_parts act_parts
 go_enter Tryz.func12, Tryz.ntmps12
 go_upto_region 1 with fail
 have O3 := Lib.hid (Ob.alloc (Ob.fresh w 25 [.slice mA nm cm, .slice cA n c]) (.cells #[.int .u64 (uv ea), .int .u64 (uv eb)] 28))
 have O4 := Lib.hid (Ob.fresh (w.alloc (.cells #[.slice mA nm cm, .slice cA n c] 25)) 28 [.int .u64 (uv ea), .int .u64 (uv eb)])
 rw [show (w.alloc (.cells #[.slice mA nm cm, .slice cA n c] 25)).heap.size = w.heap.size + 1 by simp] at O4
 have B1 := Lib.hid (below_alloc (below_alloc (B0.out) (.cells #[.slice mA nm cm, .slice cA n c] 25)) (.cells #[.int .u64 (uv ea), .int .u64 (uv eb)] 28))
 have Hq3 := Lib.hid (show w.heap.size ≤ w.heap.size by have := B0.out.size; omega)
 have Hq4 := Lib.hid (show w.heap.size ≤ w.heap.size + 1 by have := B0.out.size; omega)
 clear B0
 generalize ((w.alloc (.cells #[.slice mA nm cm, .slice cA n c] 25)).alloc (.cells #[.int .u64 (uv ea), .int .u64 (uv eb)] 28)) = w1 at O3 O4 B1 ⊢
 obtain ⟨q4, hq4⟩ : ∃ q4, w.heap.size + 1 = q4 := ⟨_, rfl⟩
 rw [hq4] at O4 Hq4 ⊢
 clear hq4
 obtain ⟨q3, hq3⟩ : ∃ q3, w.heap.size = q3 := ⟨_, rfl⟩
 have Hq3 := Lib.hid (Nat.le_of_eq hq3)
 rw [hq3] at O3 ⊢
 clear hq3
 have KS := Lib.hid (show ∀ w', Below w1.heap.size w1 w' → (w'.cell? ⟨q3, 0, none⟩ = some (.slice mA nm cm) ∧ w'.cell? ⟨q3, 1, none⟩ = some (.slice cA n c) ∧ w'.cell? ⟨q4, 0, none⟩ = some (.int .u64 (uv ea)) ∧ w'.cell? ⟨q4, 1, none⟩ = some (.int .u64 (uv eb))) from fun w' hb => ⟨(O3.out.below hb O3.out.lt).cell 0, (O3.out.below hb O3.out.lt).cell 1, (O4.out.below hb O4.out.lt).cell 0, (O4.out.below hb O4.out.lt).cell 1⟩)
 obtain ⟨wd, hwd⟩ : ∃ wd, w1.drew = wd := ⟨_, rfl⟩
 have BD := Lib.hid (show Below w1.heap.size w1 wd from hwd ▸ below_drewN (Below.refl w1.heap.size w1) 1)
 have LD := Lib.hid (show w1.heap.size ≤ wd.heap.size from BD.out.size)
 refine wp_region_held_drew (S := fun w' => (w'.cell? ⟨q3, 0, none⟩ = some (.slice mA nm cm) ∧ w'.cell? ⟨q3, 1, none⟩ = some (.slice cA n c) ∧ w'.cell? ⟨q4, 0, none⟩ = some (.int .u64 (uv ea)) ∧ w'.cell? ⟨q4, 1, none⟩ = some (.int .u64 (uv eb)))) (by kernel_rfl) (hwd ▸ KS.out wd BD.out) (fun hHeld => ?_)
 refine tkq 0 13 rfl (by kernel_rfl) (by rfl) hHeld (fun _ _ _ h => h) (by intro w' hSw; go_simp; try with_reducible rfl) ?_
 simp only [Act.put, spa, spb, spc]
 refine tkq 1 14 rfl (by kernel_rfl) (by rfl) hHeld (fun _ _ _ h => h) (by intro w' hSw; go_simp; try with_reducible rfl) ?_
 simp only [Act.put, spa, spb, spc]
 refine rdq 2 ⟨some 15, _, _, _, _, _⟩ (by kernel_rfl) rfl (fun K' hK => ?_)
 go_simp
 refine (Sc.new_any wd).mono ?_
 rintro e wx ⟨rfl, hx⟩
 have OX := Lib.hid (show Ob wx wd.heap.size 146 (arr 16 Sc.zz ++ (arr 16 Sc.zz ++ [])) from by rw [← hx]; exact Ob.fresh wd 146 _)
 have BX := Lib.hid (show Below w1.heap.size w1 wx from by rw [← hx]; exact below_alloc BD.out _)
 clear hx
 refine hK.out _ _ (KS.out _ BX.out) (fun hHeld => ?_)
 clear hK K'
 refine rdq 3 ⟨some 16, _, _, _, _, _⟩ (by kernel_rfl) rfl (fun K' hK => ?_)
 go_simp
 refine (HNW.out wx wd.heap.size (HF.out.below (B1.out.trans (BX.out.mono B1.out.size))) (HT.out.below (B1.out.trans (BX.out.mono B1.out.size))) (by have := HFL.out.1; have := B1.out.size; have := LD.out; omega) (by have := HFL.out.2; have := B1.out.size; have := LD.out; omega) (HS.out.below (B1.out.trans (BX.out.mono B1.out.size))) (HM.out.below (B1.out.trans (BX.out.mono B1.out.size))) (fun a h => by have := HCL.out a h; have := B1.out.size; have := LD.out; omega) (fun a h => by have := HML.out a h; have := B1.out.size; have := LD.out; omega) OX.out).mono ?_
 rintro e wy ⟨g, mY, cmY, cY, ccY, rfl, hM, hg, hsm, hsc, hma, hca, tk⟩
 have MY := Lib.hid hM
 have SC := Lib.hid hsc
 have SM := Lib.hid hsm
 have HMA := Lib.hid (show ∀ a, mY = some a → ¬ Tg g wd.heap.size a.block from fun a h e => by have h1 := hma a h; have h2 := OX.out.lt; rcases e with e | e <;> omega)
 have HCA := Lib.hid (show ∀ a, cY = some a → ¬ Tg g wd.heap.size a.block from fun a h e => by have h1 := hca a h; have h2 := OX.out.lt; rcases e with e | e <;> omega)
 have BY := Lib.hid (show Below w1.heap.size w1 wy from Tch.below tk BX.out BX.out.size (fun i hi e => by have := LD.out; omega))
 have HGG := Lib.hid (show w1.heap.size ≤ g ∧ g < wy.heap.size ∧ wd.heap.size < wy.heap.size from ⟨Nat.le_trans BX.out.size hg, hM.o.lt, hM.s.lt⟩)
 clear hM hg hsm hsc hma hca tk
 refine hK.out _ _ (KS.out _ BY.out) (fun hHeld => ?_)
 clear hK K'
 refine tkq 4 12 rfl (by kernel_rfl) (by rfl) hHeld (fun _ _ _ h => h) (by intro w' hSw; go_simp; try with_reducible rfl) ?_
 simp only [Act.put, spa, spb, spc]
 refine tkq 5 17 rfl (by kernel_rfl) (by rfl) hHeld (fun _ _ _ h => h) (by intro w' hSw; go_simp; try with_reducible rfl) ?_
 simp only [Act.put, spa, spb, spc]
 refine tkq 6 18 rfl (by kernel_rfl) (by rfl) hHeld (fun _ _ _ h => h) (by intro w' hSw; go_simp; try with_reducible rfl) ?_
 simp only [Act.put, spa, spb, spc]
 refine tkq 7 8 rfl (by kernel_rfl) (by rfl) hHeld (fun _ _ _ h => h) (by intro w' hSw; go_simp; try with_reducible rfl) ?_
 simp only [Act.put, spa, spb, spc]
 refine tkq 8 9 rfl (by kernel_rfl) (by rfl) hHeld (fun _ _ _ h => h) (by intro w' hSw; go_simp; try with_reducible rfl) ?_
 simp only [Act.put, spa, spb, spc]
 refine wpAnyH_done (by kernel_rfl) ?_ _
 clear hHeld KS hwd
 have B2 := Lib.hid (B1.out.trans (BY.out.mono B1.out.size))
 have HGT := Lib.hid (show ¬ Tg g wd.heap.size 5 from fun e => by have h1 := HFL.out.2; have h2 := B1.out.size; have h3 := LD.out; have h4 := HGG.out; rcases e with e | e <;> omega)
 have HLG := Lib.hid (show w.heap.size ≤ g ∧ w.heap.size ≤ wd.heap.size from ⟨Nat.le_trans B1.out.size HGG.out.1, Nat.le_trans B1.out.size LD.out⟩)
 have HB := Lib.hid (show ∀ i, Tg g wd.heap.size i → i < wy.heap.size from fun i e => by have := HGG.out; rcases e with e | e <;> omega)
 have HR2 := Lib.hid (HR.out.below B2.out)
 have HRB := Lib.hid (show 0 < rs.length → ∀ a, rA = some a → a.block < w.heap.size from fun h a ha => by
  obtain ⟨b, o, e, hc⟩ := HR.out (by rw [recs_length]; omega)
  rw [ha] at e
  injection e with e
  subst e
  exact cell_lt (hc 0 (by rw [recs_length]; omega)))
 clear B1 BY BX OX O3 O4 BD LD HNW Hq3 Hq4 HF HS HM HR HCL HML
 generalize wd.heap.size = gs at MY HMA HCA HGG HGT HLG HB ⊢
 have HMO2 := Lib.hid (show MO ≤ 256 by have := HCI.out.co; have := HMO.out; omega)
 have I0 := Lib.hid (Lw.inv_zero (S := st0 Sc.zz) HCI.out HTY.out rfl (fun _ => rfl))
 have P0 := Lib.hid (show Lw.pot l (st0 Sc.zz) ≤ MO by have := Lw.pot_cost HCI.out (st0 Sc.zz); have := HMO.out; omega)
 go_wp2_with fail
 go_loopw [2, 10] (fun u2 u10 wr => ∃ (k : Nat) (S : StV) (rk : List ResV) (Ak : Option Addr) (ck : Nat) (xs : List ActV), u2 = .slice Ak rk.length ck ∧ rk.length ≤ ck ∧ Sl wr Ak (recs rk) ∧ (0 < rk.length → ∀ a, Ak = some a → a.block < w.heap.size) ∧ (∀ r ∈ rk, ResOk r) ∧
  wr.ownsRow wy.heap.size 55 7 u10 k (accs xs) ∧ xs.length = k ∧ xs ++ traceV ms l ea eb (MO - k) S rk = X ∧ MAt wr g gs ea eb (.slice mY nm cmY) (.slice cY n ccY) S ∧ S.st = 0 ∧ S.steps = k ∧ Lw.Inv ms.length l T Mk S ∧ Lw.pot l S + k ≤ MO ∧ Tch (Tg g gs) wy wr) (fun _ u10 _ => MO - lenV u10)
 case atStart => exact ⟨0, st0 Sc.zz, rs, rA, cr, [], rfl, HRC.out, HR2.out, HRB.out, HRO.out, World.ownsRow_nil _ _ _ _, rfl, HX.out, MY.out, rfl, rfl, I0.out, P0.out, Tch.refl _ _⟩
 case round =>
  obtain ⟨k, S, rk, Ak, ck, xs, rfl, hrk, hrs, hrb, hrr, hown, hxl, hxx, hM, hst, hss, hin, hpo, htk⟩ := hrel
  have HPP := Lw.pot_pos hin
  have hkM : k < MO := by omega
  have hMO : MO ≤ 256 := HMO2.out
  have SO := Lib.hid (Lw.step_ok H4.out HCI.out HTY.out hin)
  have TI := Lib.hid (turn_is ea eb HCI.out HTY.out hin hst)
  have HPC := Lib.hid (show S.pc < n ∧ n ≤ 64 by have h1 := hin.pc; have h2 := HN.out; have h3 := HCI.out.n1; omega)
  have HN4 := Lib.hid (show nm ≤ 4 by have := H4.out; have := HNM.out; omega)
  have HLN := Lib.hid (own_len hown)
  have HLT := Lib.hid (show ∀ b, u10.ownBlock = some b → b < wr.heap.size ∧ wy.heap.size ≤ b from fun b hb => ⟨(hown.lt b hb).2, (hown.lt b hb).1⟩)
  have HK := Lib.hid (And.intro hkM (And.intro hMO (And.intro hpo hxl)))
  have HRW := Lib.hid (And.intro hrk (And.intro hrb hrr))
  have HRS := Lib.hid hrs
  have HXX := Lib.hid (show xs ++ traceV ms l ea eb ((MO - (k + 1)) + 1) S rk = X by rw [← hxx]; congr 2; omega)
  have HSS := Lib.hid (And.intro hst hss)
  have HIN := Lib.hid hin
  have HU := Lib.hid hown
  have TKR := Lib.hid htk
  have MR := Lib.hid hM
  have B3 := Lib.hid (Tch.below htk B2.out B2.out.size (fun i hi e => by have := HLG.out; rcases e with e | e <;> omega))
  clear hrk hrs hrb hrr hown hxl hxx hM hst hss hin hpo htk HPP hkM hMO I0 P0 MY HR2 HRB HX
  have HST := Lib.hid (step_any wr g gs ea eb mY cY nm cmY n ccY S ms l HN.out HPC.out.2 HNM.out HSS.out.1 HPC.out.1 (by have h1 := HSS.out.2; have h2 := HK.out; omega) SO.out.1 SO.out.2.1 SO.out.2.2.1 SO.out.2.2.2 (fun p _ => HIN.out.t p) (HT.out.below B3.out) HGT.out (sl_tch SM.out TKR.out HMA.out) HMA.out (sl_tch SC.out TKR.out HCA.out) HCA.out MR.out)
  obtain ⟨A, hA⟩ : ∃ A, stepA ms (l.getD S.pc ins0) S = A := ⟨_, rfl⟩
  rw [hA] at HST
  have HA := Lib.hid hA
  clear hA
  go_wp2_with fail
  refine HST.out.mono ?_
  rintro e w3 ⟨rfl, m3, t3⟩
  rw [show acVal A = .agg #[.int .i64 A.k, .int .i64 A.pc, .int .i64 A.mp, .int .i64 A.op, .int .u64 (uv A.key), .int .u64 (uv A.val), .int .u64 (uv A.v)] from rfl]
  have W4 := Lib.hid (World.ownsRow.alloc (own_tchB HU.out t3 HB.out) (.cells #[.int .i64 A.k, .int .i64 A.pc, .int .i64 A.mp, .int .i64 A.op, .int .u64 (uv A.key), .int .u64 (uv A.val), .int .u64 (uv A.v)] 55))
  have M4 := Lib.hid (m3.alloc (.cells #[.int .i64 A.k, .int .i64 A.pc, .int .i64 A.mp, .int .i64 A.op, .int .u64 (uv A.key), .int .u64 (uv A.val), .int .u64 (uv A.v)] 55))
  have T4 := Lib.hid ((TKR.out.trans t3).trans (Tch.of_below (below_alloc (Below.refl w3.heap.size w3) (.cells #[.int .i64 A.k, .int .i64 A.pc, .int .i64 A.mp, .int .i64 A.op, .int .u64 (uv A.key), .int .u64 (uv A.val), .int .u64 (uv A.v)] 55))))
  have R4 := Lib.hid (show Sl (w3.alloc (.cells #[.int .i64 A.k, .int .i64 A.pc, .int .i64 A.mp, .int .i64 A.op, .int .u64 (uv A.key), .int .u64 (uv A.val), .int .u64 (uv A.v)] 55)) Ak (recs rk) from by
   rcases Nat.eq_zero_or_pos rk.length with e | e
   · have e2 := List.length_eq_zero_iff.1 e
     subst e2
     exact Sl.nil _ _
   exact (sl_tch HRS.out t3 (fun a h e2 => by have h1 := HRW.out.2.1 e a h; have h2 := HLG.out; rcases e2 with e2 | e2 <;> omega)).alloc (.cells #[.int .i64 A.k, .int .i64 A.pc, .int .i64 A.mp, .int .i64 A.op, .int .u64 (uv A.key), .int .u64 (uv A.val), .int .u64 (uv A.v)] 55))
  have HQ := Lib.hid (show ∀ b, u10.ownBlock = some b → w3.heap.size ≠ b from fun b hb e => by have h1 := HLT.out b hb; have h2 := t3.size; omega)
  have OA := Lib.hid (Ob.fresh w3 55 [.int .i64 A.k, .int .i64 A.pc, .int .i64 A.mp, .int .i64 A.op, .int .u64 (uv A.key), .int .u64 (uv A.val), .int .u64 (uv A.v)])
  clear m3 t3 HST HRS HU TKR MR B3
  go_upto_region 6 with fail
  generalize w3.alloc (.cells #[.int .i64 A.k, .int .i64 A.pc, .int .i64 A.mp, .int .i64 A.op, .int .u64 (uv A.key), .int .u64 (uv A.val), .int .u64 (uv A.v)] 55) = w4 at OA M4 W4 T4 R4 ⊢
  generalize w3.heap.size = q11 at OA HQ ⊢
  have a0 := OA.out.c0
  have a1 := OA.out.c1
  have a2 := OA.out.c2
  have a3 := OA.out.c3
  have a4 := OA.out.c4
  have a5 := OA.out.c5
  have a6 := OA.out.c6
  have gk : k ≤ 256 := by have := HK.out; omega
  rcases TI.out with hon | hask | hend
  · have h4 : (A.k == 4) = false := by have := hon.k4; rw [HA.out] at this; simpa using this
    have h2 : (A.k == 2) = false := by have := hon.k2; rw [HA.out] at this; simpa using this
    have FF := Lib.hid hon
    clear hon TI
    go_wp2_with
    (at_builtin
     refine wpList_append_sl _ rfl (.tmp 24) (.tmp 26) _ rfl wy.heap.size 55 i0 _ 7 56 Tryz.underlying47 hi0 hz0 hz1 hz2 rfl (by omega) (u10) k (accs xs) rfl (World.ownsRow.alloc W4.out _)
      (some ⟨w4.heap.size, 0, none⟩) 1 1 (acc A) rfl rfl (Sl.fresh w4 (acc A).toArray 55 (0, 0)) (acc_one _) (by simp only [maxLen]; omega) (by omega) (Nat.le_trans T4.out.size (below_alloc (Below.refl w4.heap.size w4) (.cells (acc A).toArray 55)).size) ?_
     intro v2 w5 hown hgr hv2
     have HR5 := Lib.hid hown
     have G5 := Lib.hid (Tch.of_grown hgr)
     have OA5 := Lib.hid (Ob.tch (OA.out.alloc (.cells (acc A).toArray 55)) G5.out (fun e => HQ.out _ e rfl))
     have M5 := Lib.hid ((M4.out.alloc (.cells (acc A).toArray 55)).tch G5.out (fun e => by have h1 := HLT.out _ e; have h2 := HB.out g (.inl rfl); omega) (fun e => by have h1 := HLT.out _ e; have h2 := HB.out gs (.inr rfl); omega))
     have T5 := Lib.hid ((T4.out.trans (Tch.of_below (below_alloc (Below.refl w4.heap.size w4) (.cells (acc A).toArray 55)))).then (S := Tg g gs) G5.out (fun _ e => e) (fun i e hi => by have := HLT.out i e; omega))
     have a0 := OA5.out.c0
     clear a1 a2 a3 a4 a5 a6 hown hgr hv2
    )
    have R5 := Lib.hid (show Sl w5 Ak (recs rk) from by
     rcases Nat.eq_zero_or_pos rk.length with e | e
     · have e2 := List.length_eq_zero_iff.1 e
       subst e2
       exact Sl.nil _ _
     exact sl_tch (R4.out.alloc (.cells (acc A).toArray 55)) G5.out (fun a h e2 => by have h1 := HRW.out.2.1 e a h; have h2 := HLT.out _ e2; have h3 := HLG.out; have h4 := HGG.out; omega))
    exact ⟨⟨k + 1, stepS ea eb (l.getD S.pc ins0) S, rk, Ak, ck, xs ++ [A], rfl, HRW.out.1, R5.out, HRW.out.2.1, HRW.out.2.2, by rw [accs_app]; exact HR5.out, by rw [List.length_append, HK.out.2.2.2]; rfl, by rw [← HXX.out, trace_on FF.out.k4 FF.out.k2, HA.out, List.append_assoc]; rfl,
     M5.out, FF.out.st, by rw [FF.out.ss, HSS.out.2]; push_cast; rfl, FF.out.iv, by have h1 := HK.out; have h2 := FF.out.po; omega, T5.out⟩, by rw [own_len HR5.out, HLN.out]; have := HK.out; omega⟩
  · cases rk with
    | nil =>
      have h4 : (A.k == 4) = false := by have := hask.k2; rw [HA.out] at this; rw [this]; rfl
      have h2 : (A.k == 2) = true := by have := hask.k2; rw [HA.out] at this; rw [this]; rfl
      have HE := Lib.hid (show xs ++ [A] = X by rw [← HXX.out, trace_out hask.k2, HA.out])
      have hl0 : ([] : List ResV).length = 0 := rfl
      clear hask TI
      go_wp2_with
      (at_builtin
       refine wpList_append_sl _ rfl (.tmp 24) (.tmp 26) _ rfl wy.heap.size 55 i0 _ 7 56 Tryz.underlying47 hi0 hz0 hz1 hz2 rfl (by omega) (u10) k (accs xs) rfl (World.ownsRow.alloc W4.out _)
        (some ⟨w4.heap.size, 0, none⟩) 1 1 (acc A) rfl rfl (Sl.fresh w4 (acc A).toArray 55 (0, 0)) (acc_one _) (by simp only [maxLen]; omega) (by omega) (Nat.le_trans T4.out.size (below_alloc (Below.refl w4.heap.size w4) (.cells (acc A).toArray 55)).size) ?_
       intro v2 w5 hown hgr hv2
       have HR5 := Lib.hid hown
       have G5 := Lib.hid (Tch.of_grown hgr)
       have OA5 := Lib.hid (Ob.tch (OA.out.alloc (.cells (acc A).toArray 55)) G5.out (fun e => HQ.out _ e rfl))
       have M5 := Lib.hid ((M4.out.alloc (.cells (acc A).toArray 55)).tch G5.out (fun e => by have h1 := HLT.out _ e; have h2 := HB.out g (.inl rfl); omega) (fun e => by have h1 := HLT.out _ e; have h2 := HB.out gs (.inr rfl); omega))
       have T5 := Lib.hid ((T4.out.trans (Tch.of_below (below_alloc (Below.refl w4.heap.size w4) (.cells (acc A).toArray 55)))).then (S := Tg g gs) G5.out (fun _ e => e) (fun i e hi => by have := HLT.out i e; omega))
       have a0 := OA5.out.c0
       clear a1 a2 a3 a4 a5 a6 hown hgr hv2
      )
      go_ret2
      exact ⟨⟨_, rfl, by rw [← HE.out, accs_app, List.length_append, HK.out.2.2.2]; exact own_base HR5.out B2.out.size⟩, Tch.below T5.out B2.out B2.out.size (fun i hi e => by have := HLG.out; rcases e with e | e <;> omega)⟩
    | cons r t =>
      have h4 : (A.k == 4) = false := by have := hask.k2; rw [HA.out] at this; rw [this]; rfl
      have h2 : (A.k == 2) = true := by have := hask.k2; rw [HA.out] at this; rw [this]; rfl
      have HE := Lib.hid (show (xs ++ [A]) ++ traceV ms l ea eb (MO - (k + 1)) (ansS (l.getD S.pc ins0) r (stepS ea eb (l.getD S.pc ins0) S)) t = X by rw [← HXX.out, trace_ask hask.k2, HA.out, List.append_assoc]; rfl)
      have FF := Lib.hid hask
      clear hask TI
      obtain ⟨re, rf, rv, ro, rk_, rw_⟩ := r
      obtain ⟨br, or_, hAk, hbl, x0, x1, x2, x3, x4, x5, hsl⟩ := rec_head R4.out
      subst hAk
      dsimp only at x0 x1 x2 x3 x4 x5
      have HBR := Lib.hid (show br < wy.heap.size ∧ ¬ Tg g gs br ∧ br < w.heap.size from by have h1 := HRW.out.2.1 (Nat.succ_pos _) _ rfl; have h2 := HLG.out; have h3 := HGG.out; dsimp only at h1; exact ⟨by omega, fun e => (by rcases e with e | e <;> omega), h1⟩)
      have HXC := Lib.hid (And.intro x0 (And.intro x1 (And.intro x2 (And.intro x3 (And.intro x4 x5)))))
      have HSL := Lib.hid hsl
      clear hbl x0 x1 x2 x3 x4 x5 hsl
      have gt0 : (0 : Int) < (t.length : Int) + 1 := by omega
      have gt1 : ((t.length : Int) + 1 == 0) = false := by rw [beq_eq_false_iff_ne]; omega
      have gt2 : (1 : Int) ≤ (t.length : Int) + 1 := by omega
      have gt3 : (t.length : Int) + 1 ≤ (ck : Int) := by have := HRW.out.1; simp only [List.length_cons] at this; omega
      go_wp2_with
      (at_builtin
       refine wpList_append_sl _ rfl (.tmp 24) (.tmp 26) _ rfl wy.heap.size 55 i0 _ 7 56 Tryz.underlying47 hi0 hz0 hz1 hz2 rfl (by omega) (u10) k (accs xs) rfl (World.ownsRow.alloc W4.out _)
        (some ⟨w4.heap.size, 0, none⟩) 1 1 (acc A) rfl rfl (Sl.fresh w4 (acc A).toArray 55 (0, 0)) (acc_one _) (by simp only [maxLen]; omega) (by omega) (Nat.le_trans T4.out.size (below_alloc (Below.refl w4.heap.size w4) (.cells (acc A).toArray 55)).size) ?_
       intro v2 w5 hown hgr hv2
       have HR5 := Lib.hid hown
       have G5 := Lib.hid (Tch.of_grown hgr)
       have OA5 := Lib.hid (Ob.tch (OA.out.alloc (.cells (acc A).toArray 55)) G5.out (fun e => HQ.out _ e rfl))
       have M5 := Lib.hid ((M4.out.alloc (.cells (acc A).toArray 55)).tch G5.out (fun e => by have h1 := HLT.out _ e; have h2 := HB.out g (.inl rfl); omega) (fun e => by have h1 := HLT.out _ e; have h2 := HB.out gs (.inr rfl); omega))
       have T5 := Lib.hid ((T4.out.trans (Tch.of_below (below_alloc (Below.refl w4.heap.size w4) (.cells (acc A).toArray 55)))).then (S := Tg g gs) G5.out (fun _ e => e) (fun i e hi => by have := HLT.out i e; omega))
       have a0 := OA5.out.c0
       clear a1 a2 a3 a4 a5 a6 hown hgr hv2
       have HT5 := Lib.hid ((Tch.of_below (S := fun i => u10.ownBlock = some i) (below_alloc (Below.refl w4.heap.size w4) (.cells (acc A).toArray 55))).trans G5.out)
       have HNO := Lib.hid (show ¬ u10.ownBlock = some br from fun e => by have h1 := HLT.out br e; have h2 := HBR.out.1; omega)
       have y0 := En.cell_tch HT5.out HXC.out.1 HNO.out
       have y1 := En.cell_tch HT5.out HXC.out.2.1 HNO.out
       have y2 := En.cell_tch HT5.out HXC.out.2.2.1 HNO.out
       have y3 := En.cell_tch HT5.out HXC.out.2.2.2.1 HNO.out
       have y4 := En.cell_tch HT5.out HXC.out.2.2.2.2.1 HNO.out
       have y5 := En.cell_tch HT5.out HXC.out.2.2.2.2.2 HNO.out
       have RS5 := Lib.hid (sl_tch HSL.out HT5.out (fun a h e => by injection h with h; subst h; exact HNO.out e)))
      have HRR := Lib.hid (show ResOk ⟨re, rf, rv, ro, rk_, rw_⟩ from HRW.out.2.2 _ List.mem_cons_self)
      have HAN := Lib.hid (answer_any w5 g gs ea eb (.slice mY nm cmY) cY n ccY (stepS ea eb (l.getD S.pc ins0) S) l ⟨re, rf, rv, ro, rk_, rw_⟩ HN.out HPC.out.2 FF.out.st (by rw [FF.out.pc]; exact HPC.out.1) HRR.out (sl_tch SC.out T5.out HCA.out) HCA.out M5.out)
      rw [FF.out.pc] at HAN
      unfold reVal at HAN
      dsimp only at HAN
      refine HAN.out.mono ?_
      rintro e w6 ⟨rfl, m6, t6⟩
      have M6 := Lib.hid m6
      have T6 := Lib.hid (T5.out.trans t6)
      have HR6 := Lib.hid (own_tchB HR5.out t6 HB.out)
      have RS6 := Lib.hid (sl_tch RS5.out t6 (fun a h e => by injection h with h; subst h; exact HBR.out.2.1 e))
      clear m6 t6 HAN y0 y1 y2 y3 y4 y5 a0
      go_wp2_with fail
      have hln : (⟨re, rf, rv, ro, rk_, rw_⟩ :: t : List ResV).length = t.length + 1 := rfl
      have hck := HRW.out.1
      rw [hln] at hck
      exact ⟨⟨k + 1, ansS (l.getD S.pc ins0) ⟨re, rf, rv, ro, rk_, rw_⟩ (stepS ea eb (l.getD S.pc ins0) S), t, (if ck = 1 then some ⟨br, or_, none⟩ else some ⟨br, or_ + 6, none⟩), ck - 1, xs ++ [A], rfl, by omega, by
       by_cases e : ck = 1
       · have e2 : t = [] := List.length_eq_zero_iff.1 (by omega)
         subst e2
         exact Sl.nil _ _
       rw [if_neg e]; exact RS6.out,
       fun _ a ha => by
        by_cases e : ck = 1
        · rw [if_pos e] at ha; injection ha with ha; subst ha; exact HBR.out.2.2
        rw [if_neg e] at ha; injection ha with ha; subst ha; exact HBR.out.2.2,
       fun r hr => HRW.out.2.2 r (List.mem_cons_of_mem _ hr), by rw [accs_app]; exact HR6.out, by rw [List.length_append, HK.out.2.2.2]; rfl, HE.out,
       M6.out, rfl, by rw [FF.out.ss, HSS.out.2]; push_cast; rfl, FF.out.iv _, by have h1 := HK.out; have h2 := FF.out.po ⟨re, rf, rv, ro, rk_, rw_⟩; omega, T6.out⟩, by rw [own_len HR6.out, HLN.out]; have := HK.out; omega⟩
  have h4 : (A.k == 4) = true := by rw [HA.out] at hend; rw [hend]; rfl
  have HE := Lib.hid (show xs ++ [A] = X by rw [← HXX.out, trace_end hend, HA.out])
  clear hend TI
  go_wp2_with
  (at_builtin
   refine wpList_append_sl _ rfl (.tmp 24) (.tmp 26) _ rfl wy.heap.size 55 i0 _ 7 56 Tryz.underlying47 hi0 hz0 hz1 hz2 rfl (by omega) (u10) k (accs xs) rfl (World.ownsRow.alloc W4.out _)
    (some ⟨w4.heap.size, 0, none⟩) 1 1 (acc A) rfl rfl (Sl.fresh w4 (acc A).toArray 55 (0, 0)) (acc_one _) (by simp only [maxLen]; omega) (by omega) (Nat.le_trans T4.out.size (below_alloc (Below.refl w4.heap.size w4) (.cells (acc A).toArray 55)).size) ?_
   intro v2 w5 hown hgr hv2
   have HR5 := Lib.hid hown
   have G5 := Lib.hid (Tch.of_grown hgr)
   have OA5 := Lib.hid (Ob.tch (OA.out.alloc (.cells (acc A).toArray 55)) G5.out (fun e => HQ.out _ e rfl))
   have M5 := Lib.hid ((M4.out.alloc (.cells (acc A).toArray 55)).tch G5.out (fun e => by have h1 := HLT.out _ e; have h2 := HB.out g (.inl rfl); omega) (fun e => by have h1 := HLT.out _ e; have h2 := HB.out gs (.inr rfl); omega))
   have T5 := Lib.hid ((T4.out.trans (Tch.of_below (below_alloc (Below.refl w4.heap.size w4) (.cells (acc A).toArray 55)))).then (S := Tg g gs) G5.out (fun _ e => e) (fun i e hi => by have := HLT.out i e; omega))
   have a0 := OA5.out.c0
   clear a1 a2 a3 a4 a5 a6 hown hgr hv2
  )
  go_ret2
  exact ⟨⟨_, rfl, by rw [← HE.out, accs_app, List.length_append, HK.out.2.2.2]; exact own_base HR5.out B2.out.size⟩, Tch.below T5.out B2.out B2.out.size (fun i hi e => by have := HLG.out; rcases e with e | e <;> omega)⟩
end Go.Proofs.YtikkmkomlajnfaaGreatDoor.Wf
end
