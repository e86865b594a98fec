/-
  WholeForms, the walk. Conditions: those of each theorem.
  The law, of a Run that came in. Conditions: the form's own reach.
-/
import Derived.Test.YtikkmkomlajnfaaGreatDoorWm01
import Derived.Test.YtikkmkomlajnfaaGreatDoorWm35
import Derived.Test.YtikkmkomlajnfaaGreatDoorWm30
import Derived.Test.YtikkmkomlajnfaaGreatDoorWm31
set_option linter.unusedVariables false
set_option linter.unusedSimpArgs false
section
namespace Go.Proofs.YtikkmkomlajnfaaGreatDoor.Wf
set_option maxRecDepth 100000
set_option maxHeartbeats 16000000
open Go.RowKit
open Go.Proofs.YtikkmkomlajnfaaGreatDoor.Op (InstV insc insVal inss ins0 ins_at inss_length inss_allone rightV right_is RightI Frm)
open Go.Proofs.YtikkmkomlajnfaaGreatDoor.En (StV st0 ActV acc acVal ac0 keepS sl_tch cell_tch ints ints_length ints_one int_info inst_info own_none ResOk)
open Go.Proofs.YtikkmkomlajnfaaGreatDoor.Sg (ResV rec_ reVal)
open Go.Proofs.YtikkmkomlajnfaaGreatDoor.Jd (judV meas_lt2)

theorem acc_at {w : World} {A : Option Addr} {l : List ActV} (h : Sl w A (accs l)) (hn : 0 < l.length) :
 ∃ b o, A = some ⟨b, o, none⟩ ∧ ∀ k, k < l.length → w.cell? ⟨b, o + k * 7, none⟩ = some (.int .i64 (l.getD k ac0).k) ∧ w.cell? ⟨b, o + k * 7 + 1, none⟩ = some (.int .i64 (l.getD k ac0).pc) ∧
  w.cell? ⟨b, o + k * 7 + 2, none⟩ = some (.int .i64 (l.getD k ac0).mp) ∧ w.cell? ⟨b, o + k * 7 + 3, none⟩ = some (.int .i64 (l.getD k ac0).op) ∧ w.cell? ⟨b, o + k * 7 + 4, none⟩ = some (.int .u64 (uv (l.getD k ac0).key)) ∧
  w.cell? ⟨b, o + k * 7 + 5, none⟩ = some (.int .u64 (uv (l.getD k ac0).val)) ∧ w.cell? ⟨b, o + k * 7 + 6, none⟩ = some (.int .u64 (uv (l.getD k ac0).v)) := by
 have hl : (accs l).length = l.length * 7 := flat_length acc 7 (fun _ => rfl) l
 obtain ⟨b, o, e, hc⟩ := h (by rw [hl]; omega)
 rw [hl] at hc
 have key : ∀ k j, k < l.length → j < 7 → w.cell? ⟨b, o + k * 7 + j, none⟩ = some ((acc (l.getD k ac0)).getD j undef) := fun k j hk hj => by
  have h1 := hc (k * 7 + j) (by omega)
  have h2 : (accs l)[k * 7 + j]? = (acc (l.getD k ac0))[j]? := flat_get ac0 acc 7 (fun _ => rfl) l k j hk hj
  rw [← Nat.add_assoc] at h1
  rw [h1, List.getD_eq_getElem?_getD (l := accs l), h2, ← List.getD_eq_getElem?_getD (l := acc (l.getD k ac0))]
 exact ⟨b, o, e, fun k hk => ⟨key k 0 hk (by omega), key k 1 hk (by omega), key k 2 hk (by omega), key k 3 hk (by omega), key k 4 hk (by omega), key k 5 hk (by omega), key k 6 hk (by omega)⟩⟩
theorem own_lies {w : World} {base : Nat} {e : TypeId} {size n c k : Nat} {A : Option Addr} {xs : List Value} (h : w.ownsRow base e size (.slice A n c) k xs) : ∀ a, A = some a → a.block < w.heap.size := by
 obtain ⟨A', c', hv, _, _, _, hb⟩ := own_form h
 injection hv with h1 _ _
 subst h1
 exact fun a ha => (hb a ha).2
theorem own_room {w : World} {base : Nat} {e : TypeId} {size n c k : Nat} {A : Option Addr} {xs : List Value} (h : w.ownsRow base e size (.slice A n c) k xs) : k ≤ c := by
 obtain ⟨A', c', hv, hk, _, _, _⟩ := own_form h
 injection hv with _ _ h3
 subst h3
 exact hk
theorem encB_pos (ms : List Int) (l : List InstV) : 0 < (encB ms l).length := by
 unfold encB
 simp

theorem forms_any (w : World) (ea eb : BitVec 64) (l : List InstV) (ms : List Int) (rs : List ResV) (mA cA rA : Option Addr) (nm cm n c nr cr : Nat) (hn : n = l.length) (hnm : nm = ms.length) (hnr : nr = rs.length) (hrc : nr ≤ cr)
 (hb1 : nm * 8 ≤ 140737488351232) (hb2 : n * 40 ≤ 140737488351232) (him : ∀ i ∈ l, -9223372036854775808 ≤ i.m ∧ i.m ≤ 9223372036854775807) (hL : Lb w) (ht : Sg.Tab w) (hs : Sl w cA (inss l)) (hm : Sl w mA (ints ms)) (hr : Sl w rA (recs rs)) (hro : ∀ r ∈ rs, ResOk r) :
 Calls Tryz.prog 3 #[.agg #[.slice mA nm cm, .slice cA n c, .int .u64 (uv ea), .int .u64 (uv eb), .slice rA nr cr]] w fun e w' => e = .returned (.bool true) ∧ Below w.heap.size w w' := by
 have HCP := Lib.hid (fun w hs hm => copied_any w l ms mA cA nm cm n c hn hnm hb1 hb2 hs hm)
 have HN := Lib.hid hn
 have HNM := Lib.hid hnm
 have HNR := Lib.hid hnr
 have HRC := Lib.hid hrc
 have HB1 := Lib.hid hb1
 have HB := Lib.hid (show nm ≤ 140737488351232 by omega)
 have HBN := Lib.hid (show n ≤ 140737488351232 by omega)
 have HB40 := Lib.hid (show n * 40 ≤ 140737488355328 by omega)
 have HIM := Lib.hid him
 have HL := Lib.hid hL
 have HT := Lib.hid ht
 have HS := Lib.hid hs
 have HM := Lib.hid hm
 have HR := Lib.hid hr
 have HRO := Lib.hid hro
 have B0 := Lib.hid (Below.refl w.heap.size w)
 have HRN := Lib.hid (fun w hf ht => runs_any w hf ht)
 clear hn hnm hnr hrc hb1 hb2 him hL ht hs hm hr hro
 go_enter Tryz.func3, Tryz.ntmps3
 go_upto_region 1 with fail
 have O1 := Lib.hid (Ob.fresh w 31 [.slice mA nm cm, .slice cA n c, .int .u64 (uv ea), .int .u64 (uv eb), .slice rA nr cr])
 have B1 := Lib.hid (below_alloc (B0.out) (.cells #[.slice mA nm cm, .slice cA n c, .int .u64 (uv ea), .int .u64 (uv eb), .slice rA nr cr] 31))
 have Hq1 := Lib.hid (show w.heap.size ≤ w.heap.size by have := B0.out.size; omega)
 clear B0
 generalize (w.alloc (.cells #[.slice mA nm cm, .slice cA n c, .int .u64 (uv ea), .int .u64 (uv eb), .slice rA nr cr] 31)) = w1 at O1 B1 ⊢
 obtain ⟨q1, hq1⟩ : ∃ q1, w.heap.size = q1 := ⟨_, rfl⟩
 have Hq1 := Lib.hid (Nat.le_of_eq hq1)
 rw [hq1] at O1 ⊢
 clear hq1
 go_wp2_with fail
 refine (HRN.out w1 (HL.out.f.below B1.out) (HT.out.below B1.out)).mono ?_
 rintro e w2 ⟨rfl, b2⟩
 have B2 := Lib.hid (B1.out.trans (b2.mono B1.out.size))
 have O2 := Lib.hid (O1.out.below b2 O1.out.lt)
 clear b2 B1 O1
 clear HRN
 have m0 := O2.out.c0
 have m1 := O2.out.c1
 go_wp2_with fail
 refine (HCP.out w2 (HS.out.below B2.out) (HM.out.below B2.out)).mono ?_
 rintro e w3 ⟨⟨mJ, cmJ, cJ, ccJ, rfl, hle1, hle2, hsm, hsc, -, -, -, -⟩, b3⟩
 clear m0 m1
 have B3 := Lib.hid (B2.out.trans (b3.mono B2.out.size))
 have O3 := Lib.hid (O2.out.below b3 O2.out.lt)
 clear b3 B2 O2
 have HPR := Lib.hid (Print_any w3 l cJ n ccJ HN.out HB40.out HIM.out (HL.out.below B3.out) hsc)
 clear hle1 hle2 hsm hsc
 have hfd : ∀ w : World, (Instr.field 25 (.agg #[.slice mJ nm cmJ, .slice cJ n ccJ]) 1).run Tryz.prog w = .ok (.slice cJ n ccJ) w := fun _ => by kernel_rfl
 go_wp2_with fail
 clear hfd
 refine HPR.out.mono ?_
 rintro e w4 ⟨hpr, b4⟩
 have B4 := Lib.hid (B3.out.trans (b4.mono B3.out.size))
 have O4 := Lib.hid (O3.out.below b4 O3.out.lt)
 clear b4 B3 O3
 obtain ⟨sp, zp, he, hgd⟩ : ∃ sp zp, e = .returned (.tuple #[.string sp, .int .i64 zp]) ∧ (l.all rightV = true → sp = sB (printO l) ∧ zp = 0) := by
  rcases hpr with ⟨h, rfl⟩ | ⟨h, rfl⟩
  · exact ⟨_, _, rfl, fun h2 => by rw [h] at h2; cases h2⟩
  exact ⟨_, _, rfl, fun _ => ⟨rfl, rfl⟩⟩
 subst he
 have HGD := Lib.hid hgd
 clear hpr hgd HPR
 have m0 := O4.out.c0
 have m1 := O4.out.c1
 go_wp2_with fail
 refine (HCP.out w4 (HS.out.below B4.out) (HM.out.below B4.out)).mono ?_
 rintro e w5 ⟨⟨mK, cmK, cK, ccK, rfl, hle1, hle2, hsm, hsc, -, -, -, -⟩, b5⟩
 clear m0 m1
 have B5 := Lib.hid (B4.out.trans (b5.mono B4.out.size))
 have O5 := Lib.hid (O4.out.below b5 O4.out.lt)
 clear b5 B4 O4
 have HEN := Lib.hid (Encode_any w5 ms l mK cK nm cmK n ccK HNM.out hle1 HB.out HN.out HBN.out HIM.out (HL.out.f.below B5.out) hsm hsc)
 clear hle1 hle2 hsm hsc
 go_wp2_with fail
 refine HEN.out.mono ?_
 rintro e w6 ⟨hen, b6⟩
 have B6 := Lib.hid (B5.out.trans (b6.mono B5.out.size))
 have O6 := Lib.hid (O5.out.below b6 O5.out.lt)
 clear b6 B5 O5
 clear HEN
 rcases hen with ⟨hv, rfl⟩ | ⟨hv, v, rfl, hown⟩
 · clear HGD
   go_wp2_with fail
   go_ret
   exact ⟨by first | rfl | simp, B6.out⟩
 obtain ⟨hg, hl1, hl64, hrr⟩ := encV_all hv
 obtain ⟨rfl, rfl⟩ := HGD.out (List.all_eq_true.2 hrr)
 obtain ⟨Ab, cb, rfl, hcb, -, hslb, -⟩ := own_form hown
 have HSB := Lib.hid hslb
 obtain ⟨b, o, rfl, _⟩ := hslb (by rw [bts_length]; exact encB_pos ms l)
 obtain ⟨nb, hnb⟩ : ∃ nb, nb = (encB ms l).length := ⟨_, rfl⟩
 rw [← hnb] at hcb ⊢
 have HDC := Lib.hid (fun w' hT hS => Decode_any w' b o nb cb ms l hv HIM.out hnb hcb hT hS)
 have HPA := Lib.hid (fun w' hL => Parse_any w' l n HN.out (by rw [HN.out]; exact hl64) hrr HIM.out hL)
 have HSA := Lib.hid (fun w' mX cX cmX ccX h1 h2 h3 h4 => Same_any w' ms l mX mA cX cA nm cmX cm n ccX c HNM.out HB.out HN.out HBN.out h1 h2 h3 h4)
 have HJ := Lib.hid (fun w' mX cX cmX ccX h1 h2 hf ht h3 h4 => Jd.Judge_any w' l ms mX cX nm cmX n ccX HN.out h1 HNM.out h2 HB.out hf ht h3 h4)
 rw [← HNM.out, ← HN.out] at HDC
 clear hg hl1 hl64 hrr hown hcb hslb hnb hv HGD
 go_wp2_with fail
 refine (HPA.out w6 (HL.out.below B6.out)).mono ?_
 rintro e w7 ⟨cP, ccP, rfl, hop, b7⟩
 have HSB7 := Lib.hid (HSB.out.below b7)
 have B7 := Lib.hid (B6.out.trans (b7.mono B6.out.size))
 have O7 := Lib.hid (O6.out.below b7 O6.out.lt)
 clear b7 B6 O6
 have P7 := Lib.hid hop
 clear hop HPA
 clear HSB
 go_wp2_with fail
 refine (HDC.out w7 (HL.out.f.below B7.out) HSB7.out).mono ?_
 rintro e w8 ⟨mD, mcD, cD, ccD, rfl, hoM, hoC, b8⟩
 have B8 := Lib.hid (B7.out.trans (b8.mono B7.out.size))
 have O8 := Lib.hid (O7.out.below b8 O7.out.lt)
 have P8 := Lib.hid (own_below P7.out b8)
 clear b8 B7 O7 P7
 have M8 := Lib.hid hoM
 have C8 := Lib.hid hoC
 clear hoM hoC HDC HSB7
 go_upto_region 9 with fail
 have Q9 := Lib.hid (Ob.fresh w8 25 [.slice mD nm mcD, .slice cD n ccD])
 have O9 := Lib.hid (Ob.alloc (O8.out) (.cells #[.slice mD nm mcD, .slice cD n ccD] 25))
 have P9 := Lib.hid ((P8.out).alloc (.cells #[.slice mD nm mcD, .slice cD n ccD] 25))
 have M9 := Lib.hid ((M8.out).alloc (.cells #[.slice mD nm mcD, .slice cD n ccD] 25))
 have C9 := Lib.hid ((C8.out).alloc (.cells #[.slice mD nm mcD, .slice cD n ccD] 25))
 have B9 := Lib.hid (below_alloc (B8.out) (.cells #[.slice mD nm mcD, .slice cD n ccD] 25))
 have Hq10 := Lib.hid (show w.heap.size ≤ w8.heap.size by have := B8.out.size; omega)
 clear B8 O8 P8 M8 C8
 generalize (w8.alloc (.cells #[.slice mD nm mcD, .slice cD n ccD] 25)) = w9 at Q9 O9 P9 M9 C9 B9 ⊢
 obtain ⟨q10, hq10⟩ : ∃ q10, w8.heap.size = q10 := ⟨_, rfl⟩
 rw [hq10] at Q9 Hq10 ⊢
 clear hq10
 have r0 := Q9.out.c0
 have r1 := Q9.out.c1
 have m0 := O9.out.c0
 have m1 := O9.out.c1
 go_wp2_with fail
 refine (HSA.out w9 mD cD mcD ccD (own_sl M9.out) (HM.out.below B9.out) (own_sl C9.out) (HS.out.below B9.out)).mono ?_
 rintro e w10 ⟨rfl, b10⟩
 clear r0 r1 m0 m1
 have B10 := Lib.hid (B9.out.trans (b10.mono B9.out.size))
 have O10 := Lib.hid (O9.out.below b10 O9.out.lt)
 have Q10 := Lib.hid (Q9.out.below b10 Q9.out.lt)
 have P10 := Lib.hid (own_below P9.out b10)
 have M10 := Lib.hid (own_below M9.out b10)
 have C10 := Lib.hid (own_below C9.out b10)
 clear b10 B9 O9 Q9 P9 M9 C9
 have r0 := Q10.out.c0
 have r1 := Q10.out.c1
 have m0 := O10.out.c0
 have m1 := O10.out.c1
 go_wp2_with fail
 refine (HSA.out w10 mA cP cm ccP (HM.out.below B10.out) (HM.out.below B10.out) (own_sl P10.out) (HS.out.below B10.out)).mono ?_
 rintro e w11 ⟨rfl, b11⟩
 clear r0 r1 m0 m1
 have B11 := Lib.hid (B10.out.trans (b11.mono B10.out.size))
 have O11 := Lib.hid (O10.out.below b11 O10.out.lt)
 have Q11 := Lib.hid (Q10.out.below b11 Q10.out.lt)
 have P11 := Lib.hid (own_below P10.out b11)
 have M11 := Lib.hid (own_below M10.out b11)
 have C11 := Lib.hid (own_below C10.out b11)
 clear b11 B10 O10 Q10 P10 M10 C10
 clear HSA
 have r0 := Q11.out.c0
 have r1 := Q11.out.c1
 have m0 := O11.out.c0
 have m1 := O11.out.c1
 go_wp2_with fail
 refine (HJ.out w11 mD cD mcD ccD (own_room C11.out) (own_room M11.out) (HL.out.f.below B11.out) (HT.out.below B11.out) (own_sl C11.out) (own_sl M11.out)).mono ?_
 rintro e w12 ⟨rfl, b12⟩
 clear r0 r1 m0 m1
 have B12 := Lib.hid (B11.out.trans (b12.mono B11.out.size))
 have O12 := Lib.hid (O11.out.below b12 O11.out.lt)
 have Q12 := Lib.hid (Q11.out.below b12 Q11.out.lt)
 have P12 := Lib.hid (own_below P11.out b12)
 have M12 := Lib.hid (own_below M11.out b12)
 have C12 := Lib.hid (own_below C11.out b12)
 clear b12 B11 O11 Q11 P11 M11 C11
 have r0 := Q12.out.c0
 have r1 := Q12.out.c1
 have m0 := O12.out.c0
 have m1 := O12.out.c1
 go_wp2_with fail
 refine (HCP.out w12 (HS.out.below B12.out) (HM.out.below B12.out)).mono ?_
 rintro e w13 ⟨⟨mE, cmE, cE, ccE, rfl, hle1, hle2, hsm, hsc, -, -, -, -⟩, b13⟩
 clear r0 r1 m0 m1
 have B13 := Lib.hid (B12.out.trans (b13.mono B12.out.size))
 have O13 := Lib.hid (O12.out.below b13 O12.out.lt)
 have Q13 := Lib.hid (Q12.out.below b13 Q12.out.lt)
 have P13 := Lib.hid (own_below P12.out b13)
 have M13 := Lib.hid (own_below M12.out b13)
 have C13 := Lib.hid (own_below C12.out b13)
 clear b13 B12 O12 Q12 P12 M12 C12
 have HJ2 := Lib.hid (HJ.out w13 mE cE cmE ccE hle2 hle1 (HL.out.f.below B13.out) (HT.out.below B13.out) hsc hsm)
 clear hle1 hle2 hsm hsc HJ HCP
 go_wp2_with fail
 refine HJ2.out.mono ?_
 rintro e w14 ⟨rfl, b14⟩
 have B14 := Lib.hid (B13.out.trans (b14.mono B13.out.size))
 have O14 := Lib.hid (O13.out.below b14 O13.out.lt)
 have Q14 := Lib.hid (Q13.out.below b14 Q13.out.lt)
 have P14 := Lib.hid (own_below P13.out b14)
 have M14 := Lib.hid (own_below M13.out b14)
 have C14 := Lib.hid (own_below C13.out b14)
 clear b14 B13 O13 Q13 P13 M13 C13
 clear HJ2
 have HTG := Lib.hid (fun w' mX cX cmX ccX hc hm hf ht h1 h2 h3 hcn hmn hca hma hj => trace_any w' ea eb l ms rs mX cX rA nm cmX n ccX nr cr HN.out hc HNM.out hm HB.out HNR.out HRC.out hf ht h1 h2 h3 HRO.out hcn hmn hca hma hj)
 have HTB := Lib.hid (fun w' mX cX cmX ccX hc hm hf ht h1 h2 hj => trbad_any w' ea eb l ms mX cX rA nm cmX n ccX nr cr HN.out hc HNM.out hm HB.out hf ht h1 h2 hj)
 obtain ⟨p0, hp0⟩ : ∃ p0, (judV ms l).1 = p0 := ⟨_, rfl⟩
 rw [hp0]
 clear hp0
 obtain ⟨e0, he0⟩ : ∃ e0, (judV ms l).2 = e0 := ⟨_, rfl⟩
 rw [he0] at HTG HTB ⊢
 clear he0
 have r0 := Q14.out.c0
 have r1 := Q14.out.c1
 have m0 := O14.out.c0
 have m1 := O14.out.c1
 have m2 := O14.out.c2
 have m3 := O14.out.c3
 have m4 := O14.out.c4
 by_cases hj : e0 = 0
 · subst hj
   go_wp2_with fail
   refine (HTG.out w14 mD cD mcD ccD (own_room C14.out) (own_room M14.out) (HL.out.f.below B14.out) (HT.out.below B14.out) (own_sl C14.out) (own_sl M14.out) (HR.out.below B14.out) (own_none' C14.out) (own_none' M14.out) (own_lies C14.out) (own_lies M14.out) (by first | trivial | rfl)).mono ?_
   rintro e w15 ⟨⟨x, rfl, hox⟩, b15⟩
   clear r0 r1 m0 m1 m2 m3 m4
   have B15 := Lib.hid (B14.out.trans (b15.mono B14.out.size))
   have O15 := Lib.hid (O14.out.below b15 O14.out.lt)
   have Q15 := Lib.hid (Q14.out.below b15 Q14.out.lt)
   have P15 := Lib.hid (own_below P14.out b15)
   have M15 := Lib.hid (own_below M14.out b15)
   have C15 := Lib.hid (own_below C14.out b15)
   clear b15 B14 O14 Q14 P14 M14 C14
   have X15 := Lib.hid hox
   clear hox
   generalize traceV ms l ea eb (Op.costV l).toNat (st0 Sc.zz) rs = T at HTG X15
   go_upto_region 16 with fail
   obtain ⟨i1, hi1, hz1, hs1, hy1⟩ := info_parts int_info
   have HI1 := Lib.hid (And.intro hi1 (And.intro hz1 (And.intro hs1 hy1)))
   have HLI := Lib.hid (show (ints ms).length = nm * 1 by rw [ints_length, Nat.mul_one]; exact HNM.out.symm)
   clear hi1 hz1 hs1 hy1
   have KS := Lib.hid (show ∀ w', Below w15.heap.size w15 w' → (w'.cell? ⟨q1, 0, none⟩ = some (.slice mA nm cm) ∧ w'.cell? ⟨q1, 2, none⟩ = some (.int .u64 (uv ea)) ∧ w'.cell? ⟨q1, 3, none⟩ = some (.int .u64 (uv eb)) ∧ w'.cell? ⟨q1, 4, none⟩ = some (.slice rA nr cr)) from fun w' hb => ⟨(O15.out.below hb O15.out.lt).cell 0, (O15.out.below hb O15.out.lt).cell 2, (O15.out.below hb O15.out.lt).cell 3, (O15.out.below hb O15.out.lt).cell 4⟩)
   obtain ⟨wd, hwd⟩ : ∃ wd, w15.drew = wd := ⟨_, rfl⟩
   have BD := Lib.hid (show Below w15.heap.size w15 wd from hwd ▸ below_drewN (Below.refl w15.heap.size w15) 1)
   refine wp_region_held_drew (S := fun w' => (w'.cell? ⟨q1, 0, none⟩ = some (.slice mA nm cm) ∧ w'.cell? ⟨q1, 2, none⟩ = some (.int .u64 (uv ea)) ∧ w'.cell? ⟨q1, 3, none⟩ = some (.int .u64 (uv eb)) ∧ w'.cell? ⟨q1, 4, none⟩ = some (.slice rA nr cr))) (by kernel_rfl) (hwd ▸ KS.out wd BD.out) (fun hHeld => ?_)
   refine tkq 1 127 rfl (by kernel_rfl) (by rfl) hHeld (fun _ _ _ h => h) (by intro w' hSw; go_simp; try with_reducible rfl) ?_
   simp only [Act.put, spa, spb, spc]
   refine tkq 2 128 rfl (by kernel_rfl) (by rfl) hHeld (fun _ _ _ h => h) (by intro w' hSw; go_simp; try with_reducible rfl) ?_
   simp only [Act.put, spa, spb, spc]
   refine tkq 3 129 rfl (by kernel_rfl) (by rfl) hHeld (fun _ _ _ h => h) (by intro w' hSw; go_simp; try with_reducible rfl) ?_
   simp only [Act.put, spa, spb, spc]
   refine tkq 5 131 rfl (by kernel_rfl) (by rfl) hHeld (fun _ _ _ h => h) (by intro w' hSw; go_simp; try with_reducible rfl) ?_
   simp only [Act.put, spa, spb, spc]
   refine tkq 7 133 rfl (by kernel_rfl) (by rfl) hHeld (fun _ _ _ h => h) (by intro w' hSw; go_simp; try with_reducible rfl) ?_
   simp only [Act.put, spa, spb, spc]
   refine tkq 8 134 rfl (by kernel_rfl) (by rfl) hHeld (fun _ _ _ h => h) (by intro w' hSw; go_simp; try with_reducible rfl) ?_
   simp only [Act.put, spa, spb, spc]
   refine tkq 9 135 rfl (by kernel_rfl) (by rfl) hHeld (fun _ _ _ h => h) (by intro w' hSw; go_simp; try with_reducible rfl) ?_
   simp only [Act.put, spa, spb, spc]
   refine tkq 10 136 rfl (by kernel_rfl) (by rfl) hHeld (fun _ _ _ h => h) (by intro w' hSw; go_simp; try with_reducible rfl) ?_
   simp only [Act.put, spa, spb, spc]
   refine rdq 0 ⟨some 126, _, _, _, _, _⟩ (by kernel_rfl) rfl (fun K' hK => ?_)
   go_simp
   refine hK.out _ _ (KS.out _ (below_alloc BD.out (.cells #[] 3))) (fun hHeld => ?_)
   clear hK K'
   clear hHeld
   have B21 := Lib.hid (below_alloc BD.out (.cells #[] 3))
   have OM1 := Lib.hid (own_empty BD.out 3 1)
   obtain ⟨gM, hgM⟩ : ∃ gq, wd.heap.size = gq := ⟨_, rfl⟩
   rw [hgM] at OM1 ⊢
   clear hgM
   generalize wd.alloc (.cells #[] 3) = u1 at B21 OM1 ⊢
   have hHeld := KS.out _ B21.out
   refine rdq 4 ⟨some 130, _, _, _, _, _⟩ (by kernel_rfl) rfl (fun K' hK => ?_)
   rw [if_pos (by rfl)]
   refine wp_append_sl u1 (.tmp 126) (.tmp 129) 22 rfl w15.heap.size 3 _ _ 1 8 Tryz.underlying22 HI1.out.1 HI1.out.2.1 HI1.out.2.2.1 HI1.out.2.2.2 rfl (by omega) (.slice (some ⟨gM, 0, none⟩) 0 0) 0 [] rfl OM1.out
    mA nm cm (ints ms) rfl HLI.out (HM.out.below (B15.out.trans (B21.out.mono B15.out.size))) (ints_one ms) (by have := HB1.out; simp only [maxLen]; omega) (by rw [Nat.zero_add]; have := HB1.out; omega) B21.out.size ?_
   intro v' u2 hrow hgr _
   rw [Nat.zero_add, List.nil_append] at hrow
   have B22 := Lib.hid (B21.out.grown hgr B21.out.size (fun k hk => (OM1.out.lt k hk).1))
   have OM2 := Lib.hid hrow
   clear hrow hgr
   obtain ⟨mT, cmT, hvm, _, _, _, _⟩ := own_form OM2.out
   subst hvm
   refine hK.out _ _ (KS.out _ B22.out) (fun hHeld => ?_)
   clear hK K'
   refine tkq 6 132 rfl (by kernel_rfl) (by rfl) hHeld (fun _ _ _ h => h) (by intro w' hSw; go_simp; try with_reducible rfl) ?_
   simp only [Act.put, spa, spb, spc]
   refine rdq 11 ⟨some 137, _, _, _, _, _⟩ (by kernel_rfl) rfl (fun K' hK => ?_)
   go_simp
   have BA := Lib.hid (B15.out.trans (B22.out.mono B15.out.size))
   have P22 := Lib.hid (own_below P15.out B22.out)
   refine (HTG.out u2 mT cP cmT ccP (own_room P22.out) (own_room OM2.out) (HL.out.f.below BA.out) (HT.out.below BA.out) (own_sl P22.out) (own_sl OM2.out) (HR.out.below BA.out) (own_none' P22.out) (own_none' OM2.out) (own_lies P22.out) (own_lies OM2.out) (by first | trivial | rfl)).mono ?_
   rintro e wx ⟨⟨y, rfl, hoy⟩, bx⟩
   have BX := Lib.hid (B22.out.trans (bx.mono B22.out.size))
   have Y2 := Lib.hid hoy
   clear bx hoy
   refine hK.out _ _ (KS.out _ BX.out) (fun hHeld => ?_)
   clear hK K'
   refine tkq 12 125 rfl (by kernel_rfl) (by rfl) hHeld (fun _ _ _ h => h) (by intro w' hSw; go_simp; try with_reducible rfl) ?_
   simp only [Act.put, spa, spb, spc]
   refine tkq 13 138 rfl (by kernel_rfl) (by rfl) hHeld (fun _ _ _ h => h) (by intro w' hSw; go_simp; try with_reducible rfl) ?_
   simp only [Act.put, spa, spb, spc]
   refine tkq 14 139 rfl (by kernel_rfl) (by rfl) hHeld (fun _ _ _ h => h) (by intro w' hSw; go_simp; try with_reducible rfl) ?_
   simp only [Act.put, spa, spb, spc]
   refine tkq 15 19 rfl (by kernel_rfl) (by rfl) hHeld (fun _ _ _ h => h) (by intro w' hSw; go_simp; try with_reducible rfl) ?_
   simp only [Act.put, spa, spb, spc]
   refine tkq 16 20 rfl (by kernel_rfl) (by rfl) hHeld (fun _ _ _ h => h) (by intro w' hSw; go_simp; try with_reducible rfl) ?_
   simp only [Act.put, spa, spb, spc]
   refine wpAnyH_done (by kernel_rfl) ?_ _
   have BF := Lib.hid (B15.out.trans (BX.out.mono B15.out.size))
   have XF := Lib.hid (own_below X15.out BX.out)
   clear hHeld KS hwd BD B21 B22 BA P22 OM1 OM2 X15 HTG HTB HI1 HLI BX B15 P15 M15 C15 Q15 O15
   obtain ⟨AX, cX, rfl, hk1, hk2, hsx, -⟩ := own_form XF.out
   obtain ⟨AY, cY, rfl, -, -, hsy, -⟩ := own_form Y2.out
   have HX := Lib.hid hsx
   have HY := Lib.hid hsy
   have HNL := Lib.hid (show T.length ≤ 9223372036854775807 from Nat.le_trans hk1 (Nat.le_trans hk2 (by decide)))
   clear hsx hsy hk1 hk2 XF Y2
   obtain ⟨N, hN⟩ : ∃ N, N = T.length := ⟨_, rfl⟩
   have HTN := Lib.hid hN
   rw [← hN] at HNL ⊢
   clear hN
   go_wp2_with fail
   go_loopw [21] (fun i wr => ∃ k : Nat, k ≤ N ∧ i = .int .i64 k ∧ Below wx.heap.size wx wr) (fun i _ => N - (intOf i).toNat)
   case atStart => exact ⟨0, Nat.zero_le _, rfl, Below.refl _ _⟩
   case round =>
    obtain ⟨k, hk, rfl, hbr⟩ := hrel
    have BR := Lib.hid hbr
    clear hbr
    by_cases hlt : k < N
    · have l1 : (k : Int) < (N : Int) := by omega
      have l0 : (0 : Int) ≤ (k : Int) := by omega
      have g4 : wrap64 ((k : Int) + 1) = (k : Int) + 1 := by have := HNL.out; unfold wrap64; omega
      obtain ⟨bx, ox, rfl, hcx⟩ := acc_at (HX.out.below BR.out) (by rw [← HTN.out]; omega)
      obtain ⟨by_, oy, rfl, hcy⟩ := acc_at (HY.out.below BR.out) (by rw [← HTN.out]; omega)
      have CX := Lib.hid (hcx k (by rw [← HTN.out]; exact hlt))
      have CY := Lib.hid (hcy k (by rw [← HTN.out]; exact hlt))
      clear hcx hcy
      generalize T.getD k ac0 = A at CX CY
      obtain ⟨v0, v1, v2, v3, v4, v5, v6⟩ := A
      go_upto_region 22 with fail
      have KS := Lib.hid (show ∀ w', Below wr.heap.size wr w' → (w'.cell? ⟨bx, ox + k * 7, none⟩ = some (.int .i64 v0) ∧ w'.cell? ⟨bx, ox + k * 7 + 1, none⟩ = some (.int .i64 v1) ∧ w'.cell? ⟨bx, ox + k * 7 + 2, none⟩ = some (.int .i64 v2) ∧ w'.cell? ⟨bx, ox + k * 7 + 3, none⟩ = some (.int .i64 v3) ∧ w'.cell? ⟨bx, ox + k * 7 + 4, none⟩ = some (.int .u64 (uv v4)) ∧ w'.cell? ⟨bx, ox + k * 7 + 5, none⟩ = some (.int .u64 (uv v5)) ∧ w'.cell? ⟨bx, ox + k * 7 + 6, none⟩ = some (.int .u64 (uv v6)) ∧ w'.cell? ⟨by_, oy + k * 7, none⟩ = some (.int .i64 v0) ∧ w'.cell? ⟨by_, oy + k * 7 + 1, none⟩ = some (.int .i64 v1) ∧ w'.cell? ⟨by_, oy + k * 7 + 2, none⟩ = some (.int .i64 v2) ∧ w'.cell? ⟨by_, oy + k * 7 + 3, none⟩ = some (.int .i64 v3) ∧ w'.cell? ⟨by_, oy + k * 7 + 4, none⟩ = some (.int .u64 (uv v4)) ∧ w'.cell? ⟨by_, oy + k * 7 + 5, none⟩ = some (.int .u64 (uv v5)) ∧ w'.cell? ⟨by_, oy + k * 7 + 6, none⟩ = some (.int .u64 (uv v6))) from fun w' hb => ⟨keepS hb CX.out.1, keepS hb CX.out.2.1, keepS hb CX.out.2.2.1, keepS hb CX.out.2.2.2.1, keepS hb CX.out.2.2.2.2.1, keepS hb CX.out.2.2.2.2.2.1, keepS hb CX.out.2.2.2.2.2.2, keepS hb CY.out.1, keepS hb CY.out.2.1, keepS hb CY.out.2.2.1, keepS hb CY.out.2.2.2.1, keepS hb CY.out.2.2.2.2.1, keepS hb CY.out.2.2.2.2.2.1, keepS hb CY.out.2.2.2.2.2.2⟩)
      obtain ⟨wd, hwd⟩ : ∃ wd, wr.drew = wd := ⟨_, rfl⟩
      have BD := Lib.hid (show Below wr.heap.size wr wd from hwd ▸ below_drewN (Below.refl wr.heap.size wr) 1)
      clear CX CY
      refine wp_region_held_drew (S := fun w' => (w'.cell? ⟨bx, ox + k * 7, none⟩ = some (.int .i64 v0) ∧ w'.cell? ⟨bx, ox + k * 7 + 1, none⟩ = some (.int .i64 v1) ∧ w'.cell? ⟨bx, ox + k * 7 + 2, none⟩ = some (.int .i64 v2) ∧ w'.cell? ⟨bx, ox + k * 7 + 3, none⟩ = some (.int .i64 v3) ∧ w'.cell? ⟨bx, ox + k * 7 + 4, none⟩ = some (.int .u64 (uv v4)) ∧ w'.cell? ⟨bx, ox + k * 7 + 5, none⟩ = some (.int .u64 (uv v5)) ∧ w'.cell? ⟨bx, ox + k * 7 + 6, none⟩ = some (.int .u64 (uv v6)) ∧ w'.cell? ⟨by_, oy + k * 7, none⟩ = some (.int .i64 v0) ∧ w'.cell? ⟨by_, oy + k * 7 + 1, none⟩ = some (.int .i64 v1) ∧ w'.cell? ⟨by_, oy + k * 7 + 2, none⟩ = some (.int .i64 v2) ∧ w'.cell? ⟨by_, oy + k * 7 + 3, none⟩ = some (.int .i64 v3) ∧ w'.cell? ⟨by_, oy + k * 7 + 4, none⟩ = some (.int .u64 (uv v4)) ∧ w'.cell? ⟨by_, oy + k * 7 + 5, none⟩ = some (.int .u64 (uv v5)) ∧ w'.cell? ⟨by_, oy + k * 7 + 6, none⟩ = some (.int .u64 (uv v6)))) (by kernel_rfl) (hwd ▸ KS.out wd BD.out) (fun hHeld => ?_)
      refine tkq 0 161 rfl (by kernel_rfl) (by rfl) hHeld (fun _ _ _ h => h) (by intro w' hSw; go_simp; try with_reducible rfl) ?_
      simp only [Act.put, spa, spb, spc]
      refine tkq 1 162 rfl (by kernel_rfl) (by rfl) hHeld (fun _ _ _ h => h) (by intro w' hSw; go_simp; try with_reducible rfl) ?_
      simp only [Act.put, spa, spb, spc]
      refine tkq 2 163 rfl (by kernel_rfl) (by rfl) hHeld (fun _ _ _ h => h) (by intro w' hSw; go_simp; try with_reducible rfl) ?_
      simp only [Act.put, spa, spb, spc]
      refine tkq 3 164 rfl (by kernel_rfl) (by rfl) hHeld (fun _ _ _ h => h) (by intro w' hSw; go_simp; try with_reducible rfl) ?_
      simp only [Act.put, spa, spb, spc]
      refine tkq 4 165 rfl (by kernel_rfl) (by rfl) hHeld (fun _ _ _ h => h) (by intro w' hSw; go_simp; try with_reducible rfl) ?_
      simp only [Act.put, spa, spb, spc]
      refine tkq 5 166 rfl (by kernel_rfl) (by rfl) hHeld (fun _ _ _ h => h) (by intro w' hSw; go_simp; try with_reducible rfl) ?_
      simp only [Act.put, spa, spb, spc]
      refine tkq 6 167 rfl (by kernel_rfl) (by rfl) hHeld (fun _ _ _ h => h) (by intro w' hSw; go_simp; try with_reducible rfl) ?_
      simp only [Act.put, spa, spb, spc]
      refine tkq 7 168 rfl (by kernel_rfl) (by rfl) hHeld (fun _ _ _ h => h) (by intro w' hSw; go_simp; try with_reducible rfl) ?_
      simp only [Act.put, spa, spb, spc]
      refine tkq 8 169 rfl (by kernel_rfl) (by rfl) hHeld (fun _ _ _ h => h) (by intro w' hSw; go_simp; try with_reducible rfl) ?_
      simp only [Act.put, spa, spb, spc]
      refine wpAnyH_done (by kernel_rfl) ?_ _
      have BW := Lib.hid (show Below wx.heap.size wx wr.drew from BR.out.trans ((below_drewN (Below.refl wr.heap.size wr) 1).mono BR.out.size))
      clear hHeld KS hwd BD BR
      go_wp2_with fail
      exact ⟨⟨k + 1, by omega, by first | exact congrArg (Value.int .i64) (g4.trans (by push_cast; rfl)) | go_num, BW.out⟩, by first | exact meas_lt2 hlt | (rw [g4]; exact meas_lt2 hlt) | (simp [intOf]; omega)⟩
    obtain rfl : N = k := by omega
    have l1 : ¬ (N : Int) < (N : Int) := by omega
    go_wp2_with fail
    go_ret
    exact ⟨rfl, BF.out.trans (BR.out.mono BF.out.size)⟩
 have HJ0 := Lib.hid hj
 have hji : (e0 != 0) = true := by simpa using hj
 clear hj
 go_wp2_with fail
 refine (HTB.out w14 mD cD mcD ccD (own_room C14.out) (own_room M14.out) (HL.out.f.below B14.out) (HT.out.below B14.out) (own_sl C14.out) (own_sl M14.out) HJ0.out).mono ?_
 rintro e w15 ⟨rfl, b15⟩
 clear r0 r1 m0 m1 m2 m3 m4
 have B15 := Lib.hid (B14.out.trans (b15.mono B14.out.size))
 have O15 := Lib.hid (O14.out.below b15 O14.out.lt)
 have Q15 := Lib.hid (Q14.out.below b15 Q14.out.lt)
 have P15 := Lib.hid (own_below P14.out b15)
 have M15 := Lib.hid (own_below M14.out b15)
 have C15 := Lib.hid (own_below C14.out b15)
 clear b15 B14 O14 Q14 P14 M14 C14
 go_upto_region 16 with fail
 obtain ⟨i1, hi1, hz1, hs1, hy1⟩ := info_parts int_info
 have HI1 := Lib.hid (And.intro hi1 (And.intro hz1 (And.intro hs1 hy1)))
 have HLI := Lib.hid (show (ints ms).length = nm * 1 by rw [ints_length, Nat.mul_one]; exact HNM.out.symm)
 clear hi1 hz1 hs1 hy1
 have KS := Lib.hid (show ∀ w', Below w15.heap.size w15 w' → (w'.cell? ⟨q1, 0, none⟩ = some (.slice mA nm cm) ∧ w'.cell? ⟨q1, 2, none⟩ = some (.int .u64 (uv ea)) ∧ w'.cell? ⟨q1, 3, none⟩ = some (.int .u64 (uv eb)) ∧ w'.cell? ⟨q1, 4, none⟩ = some (.slice rA nr cr)) from fun w' hb => ⟨(O15.out.below hb O15.out.lt).cell 0, (O15.out.below hb O15.out.lt).cell 2, (O15.out.below hb O15.out.lt).cell 3, (O15.out.below hb O15.out.lt).cell 4⟩)
 obtain ⟨wd, hwd⟩ : ∃ wd, w15.drew = wd := ⟨_, rfl⟩
 have BD := Lib.hid (show Below w15.heap.size w15 wd from hwd ▸ below_drewN (Below.refl w15.heap.size w15) 1)
 refine wp_region_held_drew (S := fun w' => (w'.cell? ⟨q1, 0, none⟩ = some (.slice mA nm cm) ∧ w'.cell? ⟨q1, 2, none⟩ = some (.int .u64 (uv ea)) ∧ w'.cell? ⟨q1, 3, none⟩ = some (.int .u64 (uv eb)) ∧ w'.cell? ⟨q1, 4, none⟩ = some (.slice rA nr cr))) (by kernel_rfl) (hwd ▸ KS.out wd BD.out) (fun hHeld => ?_)
 refine tkq 1 127 rfl (by kernel_rfl) (by rfl) hHeld (fun _ _ _ h => h) (by intro w' hSw; go_simp; try with_reducible rfl) ?_
 simp only [Act.put, spa, spb, spc]
 refine tkq 2 128 rfl (by kernel_rfl) (by rfl) hHeld (fun _ _ _ h => h) (by intro w' hSw; go_simp; try with_reducible rfl) ?_
 simp only [Act.put, spa, spb, spc]
 refine tkq 3 129 rfl (by kernel_rfl) (by rfl) hHeld (fun _ _ _ h => h) (by intro w' hSw; go_simp; try with_reducible rfl) ?_
 simp only [Act.put, spa, spb, spc]
 refine tkq 5 131 rfl (by kernel_rfl) (by rfl) hHeld (fun _ _ _ h => h) (by intro w' hSw; go_simp; try with_reducible rfl) ?_
 simp only [Act.put, spa, spb, spc]
 refine tkq 7 133 rfl (by kernel_rfl) (by rfl) hHeld (fun _ _ _ h => h) (by intro w' hSw; go_simp; try with_reducible rfl) ?_
 simp only [Act.put, spa, spb, spc]
 refine tkq 8 134 rfl (by kernel_rfl) (by rfl) hHeld (fun _ _ _ h => h) (by intro w' hSw; go_simp; try with_reducible rfl) ?_
 simp only [Act.put, spa, spb, spc]
 refine tkq 9 135 rfl (by kernel_rfl) (by rfl) hHeld (fun _ _ _ h => h) (by intro w' hSw; go_simp; try with_reducible rfl) ?_
 simp only [Act.put, spa, spb, spc]
 refine tkq 10 136 rfl (by kernel_rfl) (by rfl) hHeld (fun _ _ _ h => h) (by intro w' hSw; go_simp; try with_reducible rfl) ?_
 simp only [Act.put, spa, spb, spc]
 refine rdq 0 ⟨some 126, _, _, _, _, _⟩ (by kernel_rfl) rfl (fun K' hK => ?_)
 go_simp
 refine hK.out _ _ (KS.out _ (below_alloc BD.out (.cells #[] 3))) (fun hHeld => ?_)
 clear hK K'
 clear hHeld
 have B21 := Lib.hid (below_alloc BD.out (.cells #[] 3))
 have OM1 := Lib.hid (own_empty BD.out 3 1)
 obtain ⟨gM, hgM⟩ : ∃ gq, wd.heap.size = gq := ⟨_, rfl⟩
 rw [hgM] at OM1 ⊢
 clear hgM
 generalize wd.alloc (.cells #[] 3) = u1 at B21 OM1 ⊢
 have hHeld := KS.out _ B21.out
 refine rdq 4 ⟨some 130, _, _, _, _, _⟩ (by kernel_rfl) rfl (fun K' hK => ?_)
 rw [if_pos (by rfl)]
 refine wp_append_sl u1 (.tmp 126) (.tmp 129) 22 rfl w15.heap.size 3 _ _ 1 8 Tryz.underlying22 HI1.out.1 HI1.out.2.1 HI1.out.2.2.1 HI1.out.2.2.2 rfl (by omega) (.slice (some ⟨gM, 0, none⟩) 0 0) 0 [] rfl OM1.out
  mA nm cm (ints ms) rfl HLI.out (HM.out.below (B15.out.trans (B21.out.mono B15.out.size))) (ints_one ms) (by have := HB1.out; simp only [maxLen]; omega) (by rw [Nat.zero_add]; have := HB1.out; omega) B21.out.size ?_
 intro v' u2 hrow hgr _
 rw [Nat.zero_add, List.nil_append] at hrow
 have B22 := Lib.hid (B21.out.grown hgr B21.out.size (fun k hk => (OM1.out.lt k hk).1))
 have OM2 := Lib.hid hrow
 clear hrow hgr
 obtain ⟨mT, cmT, hvm, _, _, _, _⟩ := own_form OM2.out
 subst hvm
 refine hK.out _ _ (KS.out _ B22.out) (fun hHeld => ?_)
 clear hK K'
 refine tkq 6 132 rfl (by kernel_rfl) (by rfl) hHeld (fun _ _ _ h => h) (by intro w' hSw; go_simp; try with_reducible rfl) ?_
 simp only [Act.put, spa, spb, spc]
 refine rdq 11 ⟨some 137, _, _, _, _, _⟩ (by kernel_rfl) rfl (fun K' hK => ?_)
 go_simp
 have BA := Lib.hid (B15.out.trans (B22.out.mono B15.out.size))
 have P22 := Lib.hid (own_below P15.out B22.out)
 refine (HTB.out u2 mT cP cmT ccP (own_room P22.out) (own_room OM2.out) (HL.out.f.below BA.out) (HT.out.below BA.out) (own_sl P22.out) (own_sl OM2.out) HJ0.out).mono ?_
 rintro e wx ⟨rfl, bx⟩
 have BX := Lib.hid (B22.out.trans (bx.mono B22.out.size))
 clear bx
 refine hK.out _ _ (KS.out _ BX.out) (fun hHeld => ?_)
 clear hK K'
 refine tkq 12 125 rfl (by kernel_rfl) (by rfl) hHeld (fun _ _ _ h => h) (by intro w' hSw; go_simp; try with_reducible rfl) ?_
 simp only [Act.put, spa, spb, spc]
 refine tkq 13 138 rfl (by kernel_rfl) (by rfl) hHeld (fun _ _ _ h => h) (by intro w' hSw; go_simp; try with_reducible rfl) ?_
 simp only [Act.put, spa, spb, spc]
 refine tkq 14 139 rfl (by kernel_rfl) (by rfl) hHeld (fun _ _ _ h => h) (by intro w' hSw; go_simp; try with_reducible rfl) ?_
 simp only [Act.put, spa, spb, spc]
 refine tkq 15 19 rfl (by kernel_rfl) (by rfl) hHeld (fun _ _ _ h => h) (by intro w' hSw; go_simp; try with_reducible rfl) ?_
 simp only [Act.put, spa, spb, spc]
 refine tkq 16 20 rfl (by kernel_rfl) (by rfl) hHeld (fun _ _ _ h => h) (by intro w' hSw; go_simp; try with_reducible rfl) ?_
 simp only [Act.put, spa, spb, spc]
 refine wpAnyH_done (by kernel_rfl) ?_ _
 have BF := Lib.hid (B15.out.trans (BX.out.mono B15.out.size))
 clear hHeld KS hwd BD B21 B22 BA P22 OM1 OM2 HTG HTB HI1 HLI BX B15 P15 M15 C15 Q15 O15
 go_wp2_with fail
 go_loopw [21] (fun i wr => i = .int .i64 0 ∧ wx = wr) (fun _ _ => 0)
 case atStart => exact ⟨rfl, rfl⟩
 case round =>
  obtain ⟨rfl, rfl⟩ := hrel
  go_wp2_with fail
  go_ret
  exact ⟨rfl, BF.out⟩
end Go.Proofs.YtikkmkomlajnfaaGreatDoor.Wf
end

section
namespace Go.Proofs.YtikkmkomlajnfaaGreatDoor.Wf
open Go.RowKit
theorem forms_law (w : World) (hL : Lb w) (ht : Sg.Tab w) (r : Unit) (v : Value) (hr : RdRun w v r) : Calls Tryz.prog 3 #[v] w fun e w' => e = .returned (.bool true) ∧ Below w.heap.size w w' := by
 obtain ⟨ea, eb, l, ms, rs, mA, cA, rA, cm, c, cr, h⟩ := hr
 obtain rfl := h.v
 exact forms_any w ea eb l ms rs mA cA rA ms.length cm l.length c rs.length cr rfl rfl rfl h.k h.b1 h.b2 h.i hL ht h.c h.m h.r h.o
end Go.Proofs.YtikkmkomlajnfaaGreatDoor.Wf
end
