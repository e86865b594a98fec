/-
  Layer 3: lines.Parse, on a module's text. Conditions: those of each theorem.
  What the row's list says of the tables; what a Run that came in reads as, its numbers in their range. Conditions: the form's own reach.
-/
import Derived.Test.YtikkmkomlajnfaaGreatDoorWm01
import Derived.Test.YtikkmkomlajnfaaGreatDoorWm34
import Derived.Test.YtikkmkomlajnfaaGreatDoorWm33
import Derived.Test.YtikkmkomlajnfaaGreatDoorWm26
import Derived.Lib.LaidTab
import Derived.Shelf.Vars
import Derived.Test.YtikkmkomlajnfaaGreatDoorRows
import Derived.Lib.LaidU8
set_option linter.unusedVariables false
set_option linter.unusedSimpArgs false
section
namespace Go.Proofs.YtikkmkomlajnfaaGreatDoor.Wf
set_option maxRecDepth 100000
set_option maxHeartbeats 16000000
open Go.RowKit
open Go.Lib (itoa join)
open Go.Proofs.YtikkmkomlajnfaaGreatDoor.Op (InstV insc insVal inss ins0 ins_at rightV right_is RightI Frm insc_one)
open Go.Proofs.YtikkmkomlajnfaaGreatDoor.Jd (meas_lt2)
open Go.Proofs.YtikkmkomlajnfaaGreatDoor.En (inst_info)

/-- what is read so far -/
structure PaS (w0 w : World) (k : Nat) (v : Value) (l : List InstV) : Prop where
 o : w.ownsRow w0.heap.size 59 5 v k (inss (l.take k))
 b : Below w0.heap.size w0 w
theorem PaS.below {w0 w w' : World} {k : Nat} {v : Value} {l : List InstV} (h : PaS w0 w k v l) (hb : Below w.heap.size w w') : PaS w0 w' k v l :=
 ⟨own_below h.o hb, h.b.trans (hb.mono h.b.size)⟩
theorem drop_cons {l : List InstV} {k : Nat} (h : k < l.length) : l.drop k = l.getD k ins0 :: l.drop (k + 1) := by
 rw [List.drop_eq_getElem_cons h, List.getD_eq_getElem?_getD, List.getElem?_eq_getElem h]
 rfl
theorem sB_some (x : UInt8) (a r : List UInt8) : ((sB (a ++ x :: r)).toList == (⟨#[]⟩ : ByteArray).toList) = false := by
 apply bs_ne
 intro e
 have e2 := congrArg ByteArray.size e
 rw [sB_size] at e2
 simp [ByteArray.size] at e2
theorem sB_full (x : UInt8) (a r : List UInt8) : (sB (a ++ x :: r)).toList.isEmpty = false := by
 rw [Bool.eq_false_iff]
 intro e
 rw [List.isEmpty_iff] at e
 have h := sB_some x a r
 rw [e, show (⟨#[]⟩ : ByteArray).toList = [] from by simp [ByteArray.toList_eq]] at h
 cases h

theorem Parse_any (w : World) (l : List InstV) (n : Nat) (hn : n = l.length) (h64 : n ≤ 64) (hr : ∀ i ∈ l, rightV i = true) (him : ∀ i ∈ l, -9223372036854775808 ≤ i.m ∧ i.m ≤ 9223372036854775807) (hL : Lb w) :
 Calls Tryz.prog 8 #[.string (sB (printO l))] w fun e w' => ∃ cA cc, e = .returned (.tuple #[.slice cA n cc, .int .i64 0, .int .i64 0]) ∧ w'.ownsRow w.heap.size 59 5 (.slice cA n cc) n (inss l) ∧ Below w.heap.size w w' := by
 have HN := Lib.hid hn
 have H64 := Lib.hid h64
 have HR := Lib.hid hr
 have HIM := Lib.hid him
 have HL := Lib.hid hL
 obtain ⟨m1, hm1⟩ := hL.m
 have HM1 := Lib.hid hm1
 obtain ⟨i5, hi5, hy0, hy1, hy2⟩ := info_parts inst_info
 have P0 := Lib.hid (show PaS w w 0 (.slice none 0 0) l from ⟨World.ownsRow_nil _ _ _ _, Below.refl _ _⟩)
 rw [show printO l = printO (l.drop 0) from rfl]
 clear hn h64 hr him hL hm1
 go_enter Tryz.func8, Tryz.ntmps8
 go_wp2_with fail
 go_loopw [0, 5, 6] (fun s v i wr => ∃ k : Nat, k ≤ n ∧ s = .string (sB (printO (l.drop k))) ∧ i = .int .i64 ((k : Int) + 1) ∧ PaS w wr k v l) (fun _ _ i _ => n + 1 - (intOf i).toNat)
 case atStart => exact ⟨0, Nat.zero_le _, rfl, rfl, P0.out⟩
 case round =>
  clear P0
  obtain ⟨k, hk, rfl, rfl, hpa⟩ := hrel
  obtain ⟨A5, c5, rfl, -, -, -, -⟩ := own_form hpa.o
  have PS := Lib.hid hpa
  clear hpa
  by_cases hlt : k < n
  · have g4 : wrap64 ((k : Int) + 1 + 1) = (k : Int) + 1 + 1 := by have := H64.out; unfold wrap64; omega
    have hkl : k < l.length := HN.out ▸ hlt
    have hmem : l.getD k ins0 ∈ l := by rw [List.getD_eq_getElem?_getD, List.getElem?_eq_getElem hkl]; exact List.getElem_mem hkl
    have HRD := Lib.hid (fun w' hL => read_any w' (l.getD k ins0) (HR.out _ hmem) (HIM.out _ hmem) hL)
    have HTK := Lib.hid (take_next ins0 hkl)
    have HLE : (printO (l.drop k)).length < 4294967281 := by
     have h1 := print_len (l.drop k) (fun i hi => HR.out i (List.mem_of_mem_drop hi)) (fun i hi => HIM.out i (List.mem_of_mem_drop hi))
     have h2 := H64.out
     have h3 := HN.out
     rw [List.length_drop] at h1
     omega
    have HCT := Lib.hid (fun w' hm => Tryz.strings_Cut (sB (printO (l.drop k))) ⟨#[10]⟩ m1 w' (by rw [sB_size]; exact HLE) hm)
    rw [sB_list, show (⟨#[10]⟩ : ByteArray).data.toList = [10] from rfl, drop_cons hkl, print_cut] at HCT
    rw [drop_cons hkl, print_cons]
    rw [print_cons] at HCT
    clear hkl hmem HLE
    generalize l.getD k ins0 = ii at HRD HTK HCT ⊢
    have hne := sB_full 10 (lineO ii) (printO (l.drop (k + 1)))
    generalize sB (lineO ii ++ 10 :: printO (l.drop (k + 1))) = X at HCT hne ⊢
    dsimp only at HCT
    rw [show (⟨(lineO ii).toArray⟩ : ByteArray) = sB (lineO ii) from rfl, show (⟨(printO (l.drop (k + 1))).toArray⟩ : ByteArray) = sB (printO (l.drop (k + 1))) from rfl] at HCT
    obtain ⟨R, hR⟩ : ∃ R, sB (printO (l.drop (k + 1))) = R := ⟨_, rfl⟩
    have HRR := Lib.hid hR
    rw [hR] at HCT
    clear hR
    generalize sB (lineO ii) = LI at HCT HRD
    go_wp2_with fail
    refine (HCT.out wr (by rw [PS.out.b.cell (cell_lt HM1.out)]; exact HM1.out)).mono ?_
    rintro e w1 ⟨rfl, nd, rfl⟩
    have PD1 := Lib.hid (PS.out.below (below_drewN (Below.refl _ _) nd))
    clear PS HCT hne
    generalize wr.drewN nd = wb at PD1 ⊢
    go_wp2_with fail
    refine (HRD.out wb (HL.out.below PD1.out.b)).mono ?_
    rintro e wx ⟨rfl, bx⟩
    have PX := Lib.hid (PD1.out.below bx)
    clear bx PD1
    unfold insVal
    go_upto_region 7 with fail
    have OF := Lib.hid (Ob.fresh wx 59 [.int .i64 ii.op, .int .i64 ii.d, .int .i64 ii.a, .int .i64 ii.b, .int .i64 ii.m])
    have PF := Lib.hid (PX.out.below (below_alloc (Below.refl _ _) (.cells #[.int .i64 ii.op, .int .i64 ii.d, .int .i64 ii.a, .int .i64 ii.b, .int .i64 ii.m] 59)))
    clear PX
    generalize wx.alloc (.cells #[.int .i64 ii.op, .int .i64 ii.d, .int .i64 ii.a, .int .i64 ii.b, .int .i64 ii.m] 59) = wf at OF PF ⊢
    generalize wx.heap.size = qt at OF ⊢
    have r0 := OF.out.c0
    have r1 := OF.out.c1
    have r2 := OF.out.c2
    have r3 := OF.out.c3
    have r4 := OF.out.c4
    have PG := Lib.hid (PF.out.below (below_alloc (Below.refl _ _) (.cells #[.int .i64 ii.op, .int .i64 ii.d, .int .i64 ii.a, .int .i64 ii.b, .int .i64 ii.m] 59)))
    go_wp2_with
     (at_builtin
      clear r0 r1 r2 r3 r4
      refine wpList_append_sl _ rfl (.tmp 34) (.tmp 36) _ rfl w.heap.size 59 i5 _ 5 40 Tryz.underlying23 hi5 hy0 hy1 hy2 rfl (by omega) _ _ _ rfl PG.out.o
       (some ⟨wf.heap.size, 0, none⟩) 1 1 (insc ii) rfl rfl (Sl.fresh wf #[.int .i64 ii.op, .int .i64 ii.d, .int .i64 ii.a, .int .i64 ii.b, .int .i64 ii.m] 59 (0, 0)) (insc_one _) (by simp only [maxLen]; have := H64.out; omega) (by have := H64.out; omega) PG.out.b.size ?_
      intro v6 w6 hown hgr _
      obtain ⟨A6, c6, rfl, -, -, -, -⟩ := own_form hown
      have PH := Lib.hid (show PaS w w6 (k + 1) (.slice A6 (k + 1) c6) l from ⟨by rw [HTK.out, show inss (l.take k ++ [ii]) = inss (l.take k) ++ insc ii from by unfold inss; rw [List.flatMap_append]; simp]; exact hown, PG.out.b.grown hgr PG.out.b.size (fun b hb => (PG.out.o.lt b hb).1)⟩)
      clear hown hgr OF PF PG)
    exact ⟨⟨k + 1, by omega, congrArg Value.string HRR.out.symm, by rw [show ((k + 1 : Nat) : Int) + 1 = (k : Int) + 1 + 1 from by omega, g4], PH.out⟩, by have e : (intOf (Value.int .i64 (wrap64 ((k : Int) + 1 + 1)))).toNat = k + 2 := by { rw [g4]; exact Int.toNat_natCast (k + 2) }; have e2 : (intOf (Value.int .i64 ((k : Int) + 1))).toNat = k + 1 := Int.toNat_natCast (k + 1); rw [e, e2]; omega⟩
  obtain rfl : n = k := by omega
  rw [show l.drop n = [] from List.drop_of_length_le (by have := HN.out; omega), show sB (printO []) = ⟨#[]⟩ from rfl]
  have HO := PS.out.o
  rw [show l.take n = l from List.take_of_length_le (by have := HN.out; omega)] at HO
  go_wp2_with fail
  go_ret3
  exact ⟨A5, c5, rfl, HO, PS.out.b⟩
end Go.Proofs.YtikkmkomlajnfaaGreatDoor.Wf
end

section
namespace Go.Proofs.YtikkmkomlajnfaaGreatDoor.Wf
open Go.RowKit Go.ChangeShapes Go.WideShapes Go.ChangeAt Go.Deep
open Go.Proofs.YtikkmkomlajnfaaGreatDoor.Op (InstV insc inss ins0 Frm frm frmL)
open Go.Proofs.YtikkmkomlajnfaaGreatDoor.Sg (ResV rec_ reVal Tab sg tabL)
open Go.Proofs.YtikkmkomlajnfaaGreatDoor.En (ints ResOk)
set_option maxRecDepth 100000

section
variable {H : Type} {enc : TypeId × Value → H} {P : Program} {w : World} {base : Nat} {sp : Nat → Bool} {held : Bool}
theorem array_parts {fuel : Nat} {t e : TypeId} {n : Nat} {cs : List Value} {ds : List (DataW H)} {p : List MemPlace} (ht : P.underlying t = some (.array n e))
 (h : DataW.trod enc P w base sp held fuel t cs = some (.agg ds, p)) : cs.length = P.cellsOf t ∧ ∀ i, i < n → ∃ fuel' d q, ds[i]? = some d ∧ DataW.trod enc P w base sp held fuel' e ((cs.drop (i * P.cellsOf e)).take (P.cellsOf e)) = some (d, q) := by
 refine ⟨?_, fun i hi => Lib.array_elem ht h i hi⟩
 cases fuel with
 | zero => simp [DataW.trod] at h
 | succ fuel =>
   simp only [DataW.trod, ht] at h
   split at h
   · assumption
   cases h
end
theorem sig_cells {H : Type} {enc : TypeId × Value → H} {w : World} {base : Nat} {sp : Nat → Bool} {held : Bool} {fuel : Nat} {cs : List Value} {a b : List UInt8} {m k : Int} {f : Bool} {p : List MemPlace}
 (h : DataW.trod enc Tryz.prog w base sp held fuel 222 cs = some (.agg [.lit (.string a), .lit (.string b), .lit (.int .u64 m), .lit (.int .i64 k), .lit (.bool f)], p)) :
 cs = [.string ⟨a.toArray⟩, .string ⟨b.toArray⟩, .int .u64 m, .int .i64 k, .bool f] := by
 obtain ⟨xs, n, rfl, hx, hl, hxl, hall⟩ := DataW.trod_struct Tryz.underlying222 h
 have h0 := hall 0 _ rfl
 have h1 := hall 1 _ rfl
 have h2 := hall 2 _ rfl
 have h3 := hall 3 _ rfl
 have h4 := hall 4 _ rfl
 have hc : cs.length = 5 := hl.trans (by kernel_rfl)
 clear hall
 have hxl5 : xs.length = 5 := hxl
 match xs, hxl5 with
 | [x0, x1, x2, x3, x4], _ =>
 match cs, hc with
 | [c0, c1, c2, c3, c4], _ =>
 have hd := congrArg Prod.fst hx
 simp only [List.map_cons, List.map_nil, DataW.agg.injEq, List.cons.injEq, and_true] at hd
 obtain ⟨e0, e1, e2, e3, e4⟩ := hd
 obtain ⟨s0, q0, r0, _⟩ := DataW.trod_string Tryz.underlying9 (x := x0) h0
 obtain ⟨s1, q1, r1, _⟩ := DataW.trod_string Tryz.underlying9 (x := x1) h1
 obtain ⟨s2, q2, r2, _⟩ := DataW.trod_int Tryz.underlying26 (x := x2) h2
 obtain ⟨s3, q3, r3, _⟩ := DataW.trod_int Tryz.underlying51 (x := x3) h3
 obtain ⟨s4, q4, r4⟩ := DataW.trod_bool Tryz.underlying4 (x := x4) h4
 rw [r0] at e0
 rw [r1] at e1
 rw [r2] at e2
 rw [r3] at e3
 rw [r4] at e4
 have g0 : [c0] = [.string s0] := q0
 have g1 : [c1] = [.string s1] := q1
 have g2 : [c2] = [.int .u64 s2] := q2
 have g3 : [c3] = [.int .i64 s3] := q3
 have g4 : [c4] = [.bool s4] := q4
 simp only [List.cons.injEq, and_true] at g0 g1 g2 g3 g4
 simp only [DataW.lit.injEq, Lit.string.injEq, Lit.int.injEq, Lit.bool.injEq, true_and] at e0 e1 e2 e3 e4
 subst g0 g1 g2 g3 g4 e0 e1 e2 e3 e4
 cases s0
 cases s1
 simp
theorem form_cells {H : Type} {enc : TypeId × Value → H} {w : World} {base : Nat} {sp : Nat → Bool} {held : Bool} {fuel : Nat} {cs : List Value} {a b : List UInt8} {p : List MemPlace}
 (h : DataW.trod enc Tryz.prog w base sp held fuel 158 cs = some (.agg [.lit (.string a), .lit (.string b)], p)) : cs = [.string ⟨a.toArray⟩, .string ⟨b.toArray⟩] := by
 obtain ⟨xs, n, rfl, hx, hl, hxl, hall⟩ := DataW.trod_struct Tryz.underlying158 h
 have h0 := hall 0 _ rfl
 have h1 := hall 1 _ rfl
 have hc : cs.length = 2 := hl.trans (by kernel_rfl)
 clear hall
 have hxl5 : xs.length = 2 := hxl
 match xs, hxl5 with
 | [x0, x1], _ =>
 match cs, hc with
 | [c0, c1], _ =>
 have hd := congrArg Prod.fst hx
 simp only [List.map_cons, List.map_nil, DataW.agg.injEq, List.cons.injEq, and_true] at hd
 obtain ⟨e0, e1⟩ := hd
 obtain ⟨s0, q0, r0, _⟩ := DataW.trod_string Tryz.underlying9 (x := x0) h0
 obtain ⟨s1, q1, r1, _⟩ := DataW.trod_string Tryz.underlying9 (x := x1) h1
 rw [r0] at e0
 rw [r1] at e1
 have g0 : [c0] = [.string s0] := q0
 have g1 : [c1] = [.string s1] := q1
 simp only [List.cons.injEq, and_true] at g0 g1
 simp only [DataW.lit.injEq, Lit.string.injEq] at e0 e1
 subst g0 g1 e0 e1
 cases s0
 cases s1
 simp
theorem chunkL {l : List Value} {c : List Value} {n : Nat} (h : l.take n = c) : l = c ++ l.drop n := by rw [← h, List.take_append_drop]
theorem tab_of {W : World} (h : Lib.VarReads Tryz.prog W "tappet/sigs.table" Rows.laid_tappet_sigs_table) : Tab W := by
 obtain ⟨g, t, cs, fuel, p, hg, hty, hvar, hd⟩ := h
 obtain rfl : 5 = g := Option.some.inj ((show Tryz.prog.globalNamed "tappet/sigs.table" = some 5 by kernel_rfl).symm.trans hg)
 obtain rfl : 249 = t := Option.some.inj ((show (Tryz.prog.globals[5]?).map (·.type) = some 249 by kernel_rfl).symm.trans hty)
 obtain ⟨hlen, hel⟩ := array_parts Tryz.underlying249 hd
 have hc5 : Tryz.prog.cellsOf 222 = 5 := by kernel_rfl
 rw [show Tryz.prog.cellsOf 249 = 35 by kernel_rfl] at hlen
 simp only [hc5] at hel
 have hE : ∀ i, i < 7 → (cs.toList.drop (i * 5)).take 5 = sg i := by
  intro i hi
  obtain ⟨fuel', d, q, hdd, htr⟩ := hel i hi
  rcases Sg.y_cases hi with rfl | rfl | rfl | rfl | rfl | rfl | rfl
  all_goals
   obtain rfl := Option.some.inj hdd
   exact sig_cells htr
 have h0 := hE 0 (by omega)
 have h1 := hE 1 (by omega)
 have h2 := hE 2 (by omega)
 have h3 := hE 3 (by omega)
 have h4 := hE 4 (by omega)
 have h5 := hE 5 (by omega)
 have h6 := hE 6 (by omega)
 have hcs : cs.toList = tabL := by
  have e0 := chunkL (l := cs.toList) (by simpa using h0)
  have e1 := chunkL h1
  have e2 := chunkL h2
  have e3 := chunkL h3
  have e4 := chunkL h4
  have e5 := chunkL h5
  have e6 := chunkL h6
  simp only [List.drop_drop, Nat.reduceMul, Nat.reduceAdd, Nat.one_mul] at e0 e1 e2 e3 e4 e5 e6
  have e7 : cs.toList.drop 35 = [] := List.drop_of_length_le (by rw [hlen]; omega)
  rw [e0, e1, e2, e3, e4, e5, e6, e7]
  simp [tabL]
 unfold World.var? at hvar
 rw [show Tryz.prog.globalNamed "tappet/sigs.table" = some 5 by kernel_rfl] at hvar
 simp only [Option.bind_some] at hvar
 split at hvar
 · rename_i c tt fr hb
   cases hvar
   refine ⟨tt, fr, ?_⟩
   rw [hb, ← hcs]
 cases hvar
theorem frm_of {W : World} (h : Lib.VarReads Tryz.prog W "tappet/ops.forms" Rows.laid_tappet_ops_forms) : Frm W := by
 obtain ⟨g, t, cs, fuel, p, hg, hty, hvar, hd⟩ := h
 obtain rfl : 0 = g := Option.some.inj ((show Tryz.prog.globalNamed "tappet/ops.forms" = some 0 by kernel_rfl).symm.trans hg)
 obtain rfl : 167 = t := Option.some.inj ((show (Tryz.prog.globals[0]?).map (·.type) = some 167 by kernel_rfl).symm.trans hty)
 obtain ⟨hlen, hel⟩ := array_parts Tryz.underlying167 hd
 have hc2 : Tryz.prog.cellsOf 158 = 2 := by kernel_rfl
 rw [show Tryz.prog.cellsOf 167 = 46 by kernel_rfl] at hlen
 simp only [hc2] at hel
 have hE : ∀ i, i < 23 → (cs.toList.drop (i * 2)).take 2 = frm i := by
  intro i hi
  obtain ⟨fuel', d, q, hdd, htr⟩ := hel i hi
  rcases Op.y_cases hi with rfl | rfl | rfl | rfl | rfl | rfl | rfl | rfl | rfl | rfl | rfl | rfl | rfl | rfl | rfl | rfl | rfl | rfl | rfl | rfl | rfl | rfl | rfl
  all_goals
   obtain rfl := Option.some.inj hdd
   exact form_cells htr
 have hcs : cs.toList = frmL := by
  have key : ∀ k, k ≤ 23 → cs.toList.drop ((23 - k) * 2) = ((List.range k).map fun i => frm (23 - k + i)).flatten := by
   intro k
   induction k with
   | zero => intro _; exact List.drop_of_length_le (by rw [hlen]; decide)
   | succ k ih =>
     intro hk
     have e := chunkL (hE (23 - (k + 1)) (by omega))
     rw [e, List.drop_drop, show (23 - (k + 1)) * 2 + 2 = (23 - k) * 2 by omega, ih (by omega), List.range_succ_eq_map]
     simp only [List.map_cons, List.flatten_cons, List.map_map, Nat.add_zero]
     congr 2
     apply List.map_congr_left
     intro i _
     simp only [Function.comp]
     congr 1
     omega
  have e := key 23 (Nat.le_refl _)
  rw [show (23 - 23) * 2 = 0 by rfl, List.drop_zero] at e
  rw [e]
  rfl
 unfold World.var? at hvar
 rw [show Tryz.prog.globalNamed "tappet/ops.forms" = some 0 by kernel_rfl] at hvar
 simp only [Option.bind_some] at hvar
 split at hvar
 · rename_i c tt fr hb
   cases hvar
   refine ⟨tt, fr, ?_⟩
   rw [hb, ← hcs]
 cases hvar
theorem iface_cell {H : Type} {enc : TypeId × Value → H} {P : Program} {w : World} {base : Nat} {sp : Nat → Bool} {fuel : Nat} {t : TypeId} {cs : List Value} {n : String} {d : DataW H} {p : List MemPlace} {ms : Array (String × TypeId)}
 (ht : P.underlying t = some (.interface ms)) (h : DataW.trod enc P w base sp false fuel t cs = some (.iface n d, p)) : ∃ u v, cs = [.iface u v] := by
 cases fuel with
 | zero => simp [DataW.trod] at h
 | succ fuel =>
   unfold DataW.trod at h
   rw [ht] at h
   split at h <;> simp_all
theorem pw_of {W : World} (h : Lib.VarReads Tryz.prog W "internal/strconv.uint64pow10" Rows.laid_internal_strconv_uint64pow10) : Pw W := by
 obtain ⟨g, t, cs, fuel, p, hg, hty, hvar, hd⟩ := h
 obtain rfl : 2 = g := Option.some.inj ((show Tryz.prog.globalNamed "internal/strconv.uint64pow10" = some 2 by kernel_rfl).symm.trans hg)
 obtain rfl : 233 = t := Option.some.inj ((show (Tryz.prog.globals[2]?).map (·.type) = some 233 by kernel_rfl).symm.trans hty)
 have hd2 : DataW.trod (fun _ => ()) Tryz.prog W 0 (fun _ => true) false fuel 233 cs.toList = some (Lib.tabData .u64 Lib.pow10Tab, p) := hd
 have hcs := Lib.cells_of_tab Tryz.underlying233 Tryz.underlying26 (by kernel_rfl) (by kernel_rfl) hd2
 unfold World.var? at hvar
 rw [show Tryz.prog.globalNamed "internal/strconv.uint64pow10" = some 2 by kernel_rfl] at hvar
 simp only [Option.bind_some] at hvar
 split at hvar
 · rename_i c tt fr hb
   cases hvar
   refine ⟨tt, fr, ?_⟩
   rw [hb, ← hcs]
 cases hvar
theorem err_of {W : World} (h : Lib.VarReads Tryz.prog W "strconv.ErrSyntax" Rows.laid_strconv_ErrSyntax) : ∃ tp p, W.cell? ⟨3, 0, none⟩ = some (.iface tp p) := by
 obtain ⟨g, t, cs, fuel, p, hg, hty, hvar, hd⟩ := h
 obtain rfl : 3 = g := Option.some.inj ((show Tryz.prog.globalNamed "strconv.ErrSyntax" = some 3 by kernel_rfl).symm.trans hg)
 obtain rfl : 65 = t := Option.some.inj ((show (Tryz.prog.globals[3]?).map (·.type) = some 65 by kernel_rfl).symm.trans hty)
 obtain ⟨u, v, e⟩ := iface_cell Tryz.underlying65 hd
 refine ⟨u, v, ?_⟩
 have := World.var?_cell hg hvar 0
 rw [this, show cs = #[.iface u v] from by cases cs; simpa using e]
 rfl
theorem max_of {W : World} (h : W.ShapedOpen Tryz.prog) : ∃ m, W.cell? ⟨1, 0, none⟩ = some (.int .i64 m) :=
 cell_of_shapedOpen_int (t := 3) (zero := #[.int .i64 0]) h (of_decide_eq_true (by kernel_rfl)) (by kernel_rfl) rfl (by kernel_rfl) (by kernel_rfl) (by kernel_rfl)
theorem lb_of_laid {W : World} {l : List (String × DataW Unit)} (hl : l = Rows.wholeFormsRow.laid) (h : laidMetH Tryz.prog l W) (hs : W.ShapedOpen Tryz.prog) : Lb W := by
 subst hl
 have h2 : laidMet Tryz.prog Rows.wholeFormsRow.laid W := h
 exact ⟨frm_of (Lib.laidMet.reads h2 (.tail _ (.tail _ (.tail _ (.head _))))), pw_of (Lib.laidMet.reads h2 (.tail _ (.tail _ (.head _)))),
  err_of (Lib.laidMet.reads h2 (.tail _ (.tail _ (.tail _ (.tail _ (.tail _ (.tail _ (.tail _ (.head _))))))))), max_of hs⟩
theorem tab_of_laid {W : World} {l : List (String × DataW Unit)} (hl : l = Rows.wholeFormsRow.laid) (h : laidMetH Tryz.prog l W) : Tab W := by
 subst hl
 have h2 : laidMet Tryz.prog Rows.wholeFormsRow.laid W := h
 exact tab_of (Lib.laidMet.reads h2 (.tail _ (.tail _ (.tail _ (.tail _ (.head _))))))

/-! a Run that came in -/
section
variable {H : Type} {enc : TypeId × Value → H} {w : World} {base b0 : Nat} {sp : Nat → Bool} {held : Bool} {fuel : Nat}
/-- an instruction whose immediate is of 64 bits -/
structure InstB where
 v : InstV
 h : -9223372036854775808 ≤ v.m ∧ v.m ≤ 9223372036854775807
theorem inst_cells {cs : List Value} {x : DataW H × List MemPlace} (h : DataW.trod enc Tryz.prog w base sp held fuel 59 cs = some x) : ∃ i : InstB, cs = insc i.v := by
 obtain ⟨xs, n, rfl, hx, hl, hxl, hall⟩ := DataW.trod_struct Tryz.underlying59 h
 have h0 := hall 0 _ rfl
 have h1 := hall 1 _ rfl
 have h2 := hall 2 _ rfl
 have h3 := hall 3 _ rfl
 have h4 := hall 4 _ rfl
 have hc : cs.length = 5 := hl.trans (by kernel_rfl)
 have hxl5 : xs.length = 5 := hxl
 clear hall hl hx
 match xs, hxl5 with
 | [x0, x1, x2, x3, x4], _ =>
 match cs, hc with
 | [c0, c1, c2, c3, c4], _ =>
 obtain ⟨n0, q0, _, _⟩ := DataW.trod_int Tryz.underlying57 (x := x0) h0
 obtain ⟨n1, q1, _, _⟩ := DataW.trod_int Tryz.underlying3 (x := x1) h1
 obtain ⟨n2, q2, _, _⟩ := DataW.trod_int Tryz.underlying3 (x := x2) h2
 obtain ⟨n3, q3, _, _⟩ := DataW.trod_int Tryz.underlying3 (x := x3) h3
 obtain ⟨n4, q4, _, f4⟩ := DataW.trod_int Tryz.underlying2 (x := x4) h4
 have g0 : [c0] = [.int .i64 n0] := q0
 have g1 : [c1] = [.int .i64 n1] := q1
 have g2 : [c2] = [.int .i64 n2] := q2
 have g3 : [c3] = [.int .i64 n3] := q3
 have g4 : [c4] = [.int .i64 n4] := q4
 simp only [List.cons.injEq, and_true] at g0 g1 g2 g3 g4
 subst g0 g1 g2 g3 g4
 simp [Lit.wf, IntKind.min, IntKind.max, IntKind.signed, IntKind.bits] at f4
 exact ⟨⟨⟨n0, n1, n2, n3, n4⟩, by show -9223372036854775808 ≤ n4 ∧ n4 ≤ 9223372036854775807; omega⟩, rfl⟩
/-- a Res, its number as one of 64 bits -/
structure ResB where
 e : Int
 found : Bool
 val : BitVec 64
 isOut : Bool
 ok : Int
 ov : Int
def ResB.v (r : ResB) : ResV := ⟨r.e, r.found, uv r.val, r.isOut, r.ok, r.ov⟩
theorem res_cells {cs : List Value} {x : DataW H × List MemPlace} (h : DataW.trod enc Tryz.prog w base sp held fuel 97 cs = some x) : ∃ r : ResB, cs = rec_ r.v := by
 obtain ⟨xs, n, rfl, hx, hl, hxl, hall⟩ := DataW.trod_struct Tryz.underlying97 h
 have h0 := hall 0 _ rfl
 have h1 := hall 1 _ rfl
 have h2 := hall 2 _ rfl
 have h3 := hall 3 _ rfl
 have h4 := hall 4 _ rfl
 have h5 := hall 5 _ rfl
 have hc : cs.length = 6 := hl.trans (by kernel_rfl)
 have hxl6 : xs.length = 6 := hxl
 clear hall hl hx
 match xs, hxl6 with
 | [x0, x1, x2, x3, x4, x5], _ =>
 match cs, hc with
 | [c0, c1, c2, c3, c4, c5], _ =>
 obtain ⟨n0, q0, _, _⟩ := DataW.trod_int Tryz.underlying33 (x := x0) h0
 obtain ⟨n1, q1, _⟩ := DataW.trod_bool Tryz.underlying4 (x := x1) h1
 obtain ⟨n2, q2, _, wf⟩ := DataW.trod_int Tryz.underlying26 (x := x2) h2
 obtain ⟨n3, q3, _⟩ := DataW.trod_bool Tryz.underlying4 (x := x3) h3
 obtain ⟨n4, q4, _, _⟩ := DataW.trod_int Tryz.underlying26 (x := x4) h4
 obtain ⟨n5, q5, _, _⟩ := DataW.trod_int Tryz.underlying26 (x := x5) h5
 obtain ⟨u2, rfl⟩ := uv_of_wf wf
 have g0 : [c0] = [.int .i64 n0] := q0
 have g1 : [c1] = [.bool n1] := q1
 have g2 : [c2] = [.int .u64 (uv u2)] := q2
 have g3 : [c3] = [.bool n3] := q3
 have g4 : [c4] = [.int .u64 n4] := q4
 have g5 : [c5] = [.int .u64 n5] := q5
 simp only [List.cons.injEq, and_true] at g0 g1 g2 g3 g4 g5
 subst g0 g1 g2 g3 g4 g5
 exact ⟨⟨n0, n1, u2, n3, n4, n5⟩, rfl⟩
/-- what a Run that came in is -/
structure RunOk (w : World) (v : Value) (ea eb : BitVec 64) (l : List InstV) (ms : List Int) (rs : List ResV) (mA cA rA : Option Addr) (cm c cr : Nat) : Prop where
 v : v = .agg #[.slice mA ms.length cm, .slice cA l.length c, .int .u64 (uv ea), .int .u64 (uv eb), .slice rA rs.length cr]
 m : Sl w mA (ints ms)
 c : Sl w cA (inss l)
 r : Sl w rA (recs rs)
 o : ∀ r ∈ rs, ResOk r
 i : ∀ x ∈ l, -9223372036854775808 ≤ x.m ∧ x.m ≤ 9223372036854775807
 k : rs.length ≤ cr
 b1 : ms.length * 8 ≤ 140737488351232
 b2 : l.length * 40 ≤ 140737488351232
 b3 : rs.length ≤ 140737488351232
def RdRun (w : World) (v : Value) (_ : Unit) : Prop := ∃ ea eb l ms rs mA cA rA cm c cr, RunOk w v ea eb l ms rs mA cA rA cm c cr
theorem open_run {v : Value} {x : DataW H × List MemPlace} (hv : Value.okWide Tryz.prog w .any b0 31 v) (h : DataW.trod enc Tryz.prog w base sp held fuel 31 v.cells.toList = some x)
 (hsz : ∀ y ∈ DataW.weights Tryz.prog 31 x.1, y ≤ reachBytes) : ∃ r, RdRun w v r := by
 obtain ⟨cs, rfl, hcs⟩ := Go.WideShapes.okWide_struct Tryz.underlying31 hv
 obtain ⟨xs, n, rfl, hx, hl, hxl, hall⟩ := DataW.trod_struct Tryz.underlying31 h
 have h0 := hall 0 _ rfl
 have h1 := hall 1 _ rfl
 have h2 := hall 2 _ rfl
 have hc : cs.size = 5 := hcs.trans (by kernel_rfl)
 have hxl3 : xs.length = 3 := hxl
 clear hall hl
 match xs, hxl3 with
 | [x0, x1, x2], _ =>
 obtain ⟨l⟩ := cs
 have hc5 : l.length = 5 := by simpa using hc
 match l, hc5 with
 | [c0, c1, c2, c3, c4], _ =>
 have h0' : DataW.trod enc Tryz.prog w base sp held n 25 [c0, c1] = some x0 := h0
 have h1' : DataW.trod enc Tryz.prog w base sp held n 28 [c2, c3] = some x1 := h1
 have h2' : DataW.trod enc Tryz.prog w base sp held n 29 [c4] = some x2 := h2
 have hd := congrArg Prod.fst hx
 simp only [List.map_cons, List.map_nil] at hd
 rw [hd] at hsz
 have z0 : ∀ y ∈ DataW.weights Tryz.prog 25 x0.1, y ≤ reachBytes := fun y hy => hsz y (by
  simp only [DataW.weights, Tryz.underlying31]
  exact DataW.weights_mem_each (j := 0) (t := 25) (d := x0.1) (by rfl) (by rfl) y hy)
 have z2 : ∀ y ∈ DataW.weights Tryz.prog 29 x2.1, y ≤ reachBytes := fun y hy => hsz y (by
  simp only [DataW.weights, Tryz.underlying31]
  exact DataW.weights_mem_each (j := 2) (t := 29) (d := x2.1) (by rfl) (by rfl) y hy)
 obtain ⟨ys, m, rfl, hy, _, hyl, hal⟩ := DataW.trod_struct Tryz.underlying25 h0'
 have k0 := hal 0 _ rfl
 have k1 := hal 1 _ rfl
 have hyl2 : ys.length = 2 := hyl
 clear hal
 match ys, hyl2 with
 | [y0, y1], _ =>
 have k0' : DataW.trod enc Tryz.prog w base sp held m 22 [c0] = some y0 := k0
 have k1' : DataW.trod enc Tryz.prog w base sp held m 23 [c1] = some y1 := k1
 have hd2 := congrArg Prod.fst hy
 simp only [List.map_cons, List.map_nil] at hd2
 rw [hd2] at z0
 have w0 : ∀ y ∈ DataW.weights Tryz.prog 22 y0.1, y ≤ reachBytes := fun y hy => z0 y (by
  simp only [DataW.weights, Tryz.underlying25]
  exact DataW.weights_mem_each (j := 0) (t := 22) (d := y0.1) (by rfl) (by rfl) y hy)
 have w1 : ∀ y ∈ DataW.weights Tryz.prog 23 y1.1, y ≤ reachBytes := fun y hy => z0 y (by
  simp only [DataW.weights, Tryz.underlying25]
  exact DataW.weights_mem_each (j := 1) (t := 23) (d := y1.1) (by rfl) (by rfl) y hy)
 obtain ⟨es, m2, _, _, _, hel, hae⟩ := DataW.trod_struct Tryz.underlying28 h1'
 have j0 := hae 0 _ rfl
 have j1 := hae 1 _ rfl
 have hel2 : es.length = 2 := hel
 clear hae
 match es, hel2 with
 | [e0, e1], _ =>
 obtain ⟨n2, q2, _, f2⟩ := DataW.trod_int Tryz.underlying26 (x := e0) j0
 obtain ⟨n3, q3, _, f3⟩ := DataW.trod_int Tryz.underlying26 (x := e1) j1
 obtain ⟨ea, rfl⟩ := uv_of_wf f2
 obtain ⟨eb, rfl⟩ := uv_of_wf f3
 have g2 : [c2] = [.int .u64 (uv ea)] := q2
 have g3 : [c3] = [.int .u64 (uv eb)] := q3
 simp only [List.cons.injEq, and_true] at g2 g3
 subst g2 g3
 obtain ⟨ms, ⟨⟨mA, cm, rfl, _, hm⟩, _, hb1⟩, _⟩ := open_numbers (k := .i64) Tryz.underlying22 Tryz.underlying3 (by kernel_rfl) (by kernel_rfl) k0' w0
 obtain ⟨is, cA, c, rfl, _, hb2, hi⟩ := open_rows (⟨ins0, by decide⟩ : InstB) (fun x => insc x.v) 5 (fun _ => rfl) (by omega) Tryz.underlying23 (by kernel_rfl) (fun _ _ _ hx => inst_cells hx) k1' w1
 obtain ⟨rs, rA, cr, rfl, hk3, hb3, hr⟩ := open_rows (⟨0, false, 0#64, false, 0, 0⟩ : ResB) (fun r => rec_ r.v) 6 (fun _ => rfl) (by omega) Tryz.underlying29 (by kernel_rfl) (fun _ _ _ hx => res_cells hx) h2' z2
 rw [show Tryz.prog.bytesOf 59 = 40 by kernel_rfl] at hb2
 rw [show Tryz.prog.bytesOf 97 = 48 by kernel_rfl] at hb3
 refine ⟨(), ea, eb, is.map InstB.v, ms, rs.map ResB.v, mA, cA, rA, cm, c, cr, ⟨by rw [List.length_map, List.length_map], hm, ?_, ?_, ?_, ?_, by rw [List.length_map]; exact hk3, hb1, by rw [List.length_map]; exact hb2, by rw [List.length_map]; omega⟩⟩
 · have e : inss (is.map InstB.v) = is.flatMap (fun r => insc r.v) := by unfold inss; rw [List.flatMap_map]
   rw [e]; exact hi
 · have e : recs (rs.map ResB.v) = rs.flatMap (fun r => rec_ r.v) := by unfold recs; rw [List.flatMap_map]
   rw [e]; exact hr
 · intro r hr
   obtain ⟨b, _, rfl⟩ := List.mem_map.1 hr
   exact ⟨b.val, rfl⟩
 intro x hx
 obtain ⟨b, _, rfl⟩ := List.mem_map.1 hx
 exact b.h
end
end Go.Proofs.YtikkmkomlajnfaaGreatDoor.Wf
end
