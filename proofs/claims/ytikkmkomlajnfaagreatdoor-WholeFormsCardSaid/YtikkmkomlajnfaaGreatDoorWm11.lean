/-
  Layer 11: a machine's answer; its result; its steps. Conditions: those of each theorem.
  Wipe; slices.Clone of numbers and of instructions. Conditions: those of each theorem.
-/
import Derived.Test.YtikkmkomlajnfaaGreatDoorWm01
import Derived.Test.YtikkmkomlajnfaaGreatDoorWm10
set_option linter.unusedVariables false
set_option linter.unusedSimpArgs false
section
namespace Go.Proofs.YtikkmkomlajnfaaGreatDoor.En
set_option maxRecDepth 100000
set_option maxHeartbeats 16000000
open Go.RowKit
open Go.Proofs.YtikkmkomlajnfaaGreatDoor.Op (InstV insc insVal inss ins0 ins_at rightV right_is RightI Frm goesV writesV sourceV)
open Go.Proofs.YtikkmkomlajnfaaGreatDoor.Sg (ResV rec_ reVal vlOf)

/-- what an answer makes of the machine -/
def valU (h : Int) (r : ResV) : BitVec 64 := BitVec.ofInt 64 (vlOf (Sg.hI h) r)
def ansS (i : InstV) (r : ResV) (S : StV) : StV := { S with regs := upd S.regs 0 (valU i.m r), pc := S.pc + 1, st := 0 }
/-- a Res whose number is one of 64 bits -/
def ResOk (r : ResV) : Prop := ∃ x : BitVec 64, r.val = uv x
theorem val_uv {h : Int} {r : ResV} (hr : ResOk r) : vlOf (Sg.hI h) r = uv (valU h r) := by
 obtain ⟨x, hx⟩ := hr
 have key : ∃ y : BitVec 64, vlOf (Sg.hI h) r = uv y := by
  unfold vlOf
  by_cases c : Sg.hI h = 0 ∨ Sg.hI h = 4
  · rw [if_pos c]; exact ⟨x, hx⟩
  rw [if_neg c]
  by_cases c2 : ((Sg.hI h = 1 ∨ Sg.hI h = 3) ∧ r.found = true) ∨ (Sg.hI h = 2 ∧ r.e = 0)
  · rw [if_pos c2]; exact ⟨1#64, rfl⟩
  rw [if_neg c2]; exact ⟨0#64, rfl⟩
 obtain ⟨y, hy⟩ := key
 unfold valU
 rw [hy]
 congr 1
 apply BitVec.eq_of_toNat_eq
 unfold uv
 rw [BitVec.toNat_ofInt]
 have := y.isLt
 omega

theorem answer_any (w : World) (g gs : Nat) (ea eb : BitVec 64) (mV : Value) (cA : Option Addr) (n c : Nat) (S : StV) (l : List InstV) (r : ResV) (hn : n = l.length) (hm : n ≤ 64) (hst : S.st = 1) (hpc : S.pc < n) (hr : ResOk r)
 (hc : Sl w cA (inss l)) (hcp : ∀ a, cA = some a → ¬ Tg g gs a.block) (hM : MAt w g gs ea eb mV (.slice cA n c) S) :
 Calls Tryz.prog 33 #[.pointer (some ⟨g, 0, none⟩), reVal r] w fun e w' => e = .returned (.int .i64 0) ∧ MAt w' g gs ea eb mV (.slice cA n c) (ansS (l.getD S.pc ins0) r S) ∧ Tch (Tg g gs) w w' := by
 obtain ⟨bc, oc, hcA, _, hcc⟩ := (ins_at hc (by omega))
 have HC4 := Lib.hid ((hcc S.pc (by omega)).2.2.2.2)
 have HNB := Lib.hid (hcp _ hcA)
 subst hcA
 generalize l.getD S.pc ins0 = i at HC4 ⊢
 obtain ⟨S', hS'⟩ : ∃ S', ansS i r S = S' := ⟨_, rfl⟩
 rw [hS']
 have HV := Lib.hid (fun w => Sg.value_any w i.m r)
 rw [val_uv hr] at HV
 have HS := Lib.hid (show ({ S with regs := upd S.regs 0 (valU i.m r), pc := S.pc + 1, st := 0 } : StV) = S' from hS')
 generalize valU i.m r = v at HV HS
 have HPC := Lib.hid (show S.pc < n ∧ n ≤ 64 from ⟨hpc, hm⟩)
 have HST := Lib.hid hst
 have HM := Lib.hid hM
 have B0 := Lib.hid (Below.refl w.heap.size w)
 have gp1 : (S.pc : Int) < (n : Int) := by omega
 have gp0 : (0 : Int) ≤ (S.pc : Int) := by omega
 clear hS' hpc hm hn hst hc hcp hM hcc hr
 obtain ⟨op, d, a, b, m⟩ := i
 obtain ⟨re, rf, rv, rio, rok, rov⟩ := r
 unfold reVal at HV ⊢
 dsimp only at HV HC4 ⊢
 go_enter Tryz.func33, Tryz.ntmps33
 go_upto_region 1 with fail
 have O1 := Lib.hid (Ob.fresh w 97 [.int .i64 re, .bool rf, .int .u64 rv, .bool rio, .int .u64 rok, .int .u64 rov])
 have B1 := Lib.hid (below_alloc (B0.out) (.cells #[.int .i64 re, .bool rf, .int .u64 rv, .bool rio, .int .u64 rok, .int .u64 rov] 97))
 have Hq1 := Lib.hid (show w.heap.size ≤ w.heap.size by have := B0.out.size; omega)
 clear B0
 generalize (w.alloc (.cells #[.int .i64 re, .bool rf, .int .u64 rv, .bool rio, .int .u64 rok, .int .u64 rov] 97)) = w1 at O1 B1 ⊢
 obtain ⟨q1, hq1⟩ : ∃ q1, w.heap.size = q1 := ⟨_, rfl⟩
 have Hq1 := Lib.hid (Nat.le_of_eq hq1)
 rw [hq1] at O1 ⊢
 clear hq1
 have M1 := Lib.hid (HM.out.below B1.out)
 have y79 : w1.cell? ⟨g, 79, none⟩ = some (.int .i64 1) := by rw [← HST.out]; exact M1.out.st_
 go_upto_region 3 with fail
 clear y79
 obtain ⟨wd, hwd⟩ : ∃ wd, w1.drew = wd := ⟨_, rfl⟩
 have MD := Lib.hid (hwd ▸ M1.out.drew)
 have OD := Lib.hid (hwd ▸ O1.out.drew)
 have TD := Lib.hid (show Tch (Tg g gs) w wd from hwd ▸ (Tch.of_below B1.out).drew)
 clear M1 O1
 refine wp_region_held_drew (S := fun w' => (w'.cell? ⟨g, 3, none⟩ = some (.slice (some ⟨bc, oc, none⟩) n c) ∧ w'.cell? ⟨g, 77, none⟩ = some (.int .i64 S.pc) ∧ w'.cell? ⟨bc, oc + S.pc * 5 + 4, none⟩ = some (.int .i64 m) ∧ w'.cell? ⟨q1, 0, none⟩ = some (.int .i64 re) ∧ w'.cell? ⟨q1, 1, none⟩ = some (.bool rf) ∧ w'.cell? ⟨q1, 2, none⟩ = some (.int .u64 rv) ∧ w'.cell? ⟨q1, 3, none⟩ = some (.bool rio) ∧ w'.cell? ⟨q1, 4, none⟩ = some (.int .u64 rok) ∧ w'.cell? ⟨q1, 5, none⟩ = some (.int .u64 rov))) (by kernel_rfl) (by rw [hwd]; exact ⟨MD.out.cs, MD.out.pc_, cell_tch TD.out HC4.out HNB.out, OD.out.cell 0, OD.out.cell 1, OD.out.cell 2, OD.out.cell 3, OD.out.cell 4, OD.out.cell 5⟩) (fun hHeld => ?_)
 refine tkq 0 10 rfl (by kernel_rfl) (by rfl) hHeld (fun _ _ _ h => h) (by intro w' hSw; go_simp; try with_reducible rfl) ?_
 simp only [Act.put, spa, spb, spc]
 refine tkq 1 11 rfl (by kernel_rfl) (by rfl) hHeld (fun _ _ _ h => h) (by intro w' hSw; go_simp; try with_reducible rfl) ?_
 simp only [Act.put, spa, spb, spc]
 refine tkq 2 12 rfl (by kernel_rfl) (by rfl) hHeld (fun _ _ _ h => h) (by intro w' hSw; go_simp; try with_reducible rfl) ?_
 simp only [Act.put, spa, spb, spc]
 refine tkq 3 13 rfl (by kernel_rfl) (by rfl) hHeld (fun _ _ _ h => h) (by intro w' hSw; go_simp; try with_reducible rfl) ?_
 simp only [Act.put, spa, spb, spc]
 refine tkq 4 14 rfl (by kernel_rfl) (by rfl) hHeld (fun _ _ _ h => h) (by intro w' hSw; go_simp; try with_reducible rfl) ?_
 simp only [Act.put, spa, spb, spc]
 refine tkq 5 15 rfl (by kernel_rfl) (by rfl) hHeld (fun _ _ _ h => h) (by intro w' hSw; go_simp; try with_reducible rfl) ?_
 simp only [Act.put, spa, spb, spc]
 refine tkq 6 16 rfl (by kernel_rfl) (by rfl) hHeld (fun _ _ _ h => h) (by intro w' hSw; go_simp; try with_reducible rfl) ?_
 simp only [Act.put, spa, spb, spc]
 refine tkq 7 17 rfl (by kernel_rfl) (by rfl) hHeld (fun _ _ _ h => h) (by intro w' hSw; go_simp; try with_reducible rfl) ?_
 simp only [Act.put, spa, spb, spc]
 refine tkq 8 18 rfl (by kernel_rfl) (by rfl) hHeld (fun _ _ _ h => h) (by intro w' hSw; go_simp; try with_reducible rfl) ?_
 simp only [Act.put, spa, spb, spc]
 refine tkq 9 19 rfl (by kernel_rfl) (by rfl) hHeld (fun _ _ _ h => h) (by intro w' hSw; go_simp; try with_reducible rfl) ?_
 simp only [Act.put, spa, spb, spc]
 refine tkq 10 20 rfl (by kernel_rfl) (by rfl) hHeld (fun _ _ _ h => h) (by intro w' hSw; go_simp; try with_reducible rfl) ?_
 simp only [Act.put, spa, spb, spc]
 refine tkq 11 21 rfl (by kernel_rfl) (by rfl) hHeld (fun _ _ _ h => h) (by intro w' hSw; go_simp; try with_reducible rfl) ?_
 simp only [Act.put, spa, spb, spc]
 refine tkq 12 22 rfl (by kernel_rfl) (by rfl) hHeld (fun _ _ _ h => h) (by intro w' hSw; go_simp; try with_reducible rfl) ?_
 simp only [Act.put, spa, spb, spc]
 refine tkq 13 23 rfl (by kernel_rfl) (by rfl) hHeld (fun _ _ _ h => h) (by intro w' hSw; go_simp; try with_reducible rfl) ?_
 simp only [Act.put, spa, spb, spc]
 refine tkq 15 25 rfl (by kernel_rfl) (by rfl) hHeld (fun _ _ _ h => h) (by intro w' hSw; go_simp; try with_reducible rfl) ?_
 simp only [Act.put, spa, spb, spc]
 refine tkq 16 26 rfl (by kernel_rfl) (by rfl) hHeld (fun _ _ _ h => h) (by intro w' hSw; go_simp; try with_reducible rfl) ?_
 simp only [Act.put, spa, spb, spc]
 refine rdq 14 ⟨some 24, _, _, _, _, _⟩ (by kernel_rfl) rfl (fun K' hK => ?_)
 go_simp
 refine (HV.out wd).mono ?_
 rintro e wx ⟨rfl, bx⟩
 have MX := Lib.hid (MD.out.below bx)
 have TX := Lib.hid (TD.out.trans (Tch.of_below bx))
 have OX := Lib.hid (OD.out.below bx OD.out.lt)
 clear bx
 refine hK.out _ _ ⟨MX.out.cs, MX.out.pc_, cell_tch TX.out HC4.out HNB.out, OX.out.cell 0, OX.out.cell 1, OX.out.cell 2, OX.out.cell 3, OX.out.cell 4, OX.out.cell 5⟩ (fun hHeld => ?_)
 clear hK K'
 refine tkq 17 27 rfl (by kernel_rfl) (by rfl) hHeld (fun _ _ _ h => h) (by intro w' hSw; go_simp; try with_reducible rfl) ?_
 simp only [Act.put, spa, spb, spc]
 refine rdq 18 ⟨none, _, _, _, _, _⟩ (by kernel_rfl) rfl (fun K' hK => ?_)
 have r0 : wx.cell? ⟨g, 5, none⟩ = some (.int .u64 (uv (S.regs 0))) := MX.out.reg (r := 0) (by decide)
 have zg := MX.out.o.frozen
 go_simp
 have MY := Lib.hid (show MAt (wx.setCell ⟨g, 5, none⟩ (.int .u64 (uv v))) g gs ea eb mV (.slice (some ⟨bc, oc, none⟩) n c) { S with regs := upd S.regs 0 v } from MX.out.setReg (r := 0) (by decide) v)
 have TY := Lib.hid (TX.out.setCell (p := ⟨g, 5, none⟩) (Or.inl rfl) (.int .u64 (uv v)))
 have OY := Lib.hid (OX.out.far (p := ⟨g, 5, none⟩) (OX.out.ne_ MX.out.o (by decide)) (.int .u64 (uv v)))
 refine hK.out _ _ ⟨MY.out.cs, MY.out.pc_, cell_tch TY.out HC4.out HNB.out, OY.out.cell 0, OY.out.cell 1, OY.out.cell 2, OY.out.cell 3, OY.out.cell 4, OY.out.cell 5⟩ (fun hHeld => ?_)
 clear hK K'
 clear hHeld r0 zg
 refine wpAnyH_done (by kernel_rfl) ?_ _
 clear hwd MD OD TD MX TX OX OY
 generalize wx.setCell ⟨g, 5, none⟩ (.int .u64 (uv v)) = w3 at MY TY ⊢
 have gpc : wrap64 ((S.pc : Int) + 1) = ((S.pc + 1 : Nat) : Int) := by have := HPC.out; unfold wrap64; push_cast; omega
 have y77 : w3.cell? ⟨g, 77, none⟩ = some (.int .i64 S.pc) := MY.out.pc_
 have y79 : w3.cell? ⟨g, 79, none⟩ = some (.int .i64 S.st) := MY.out.st_
 have zg := MY.out.o.frozen
 have MZ := Lib.hid ((MY.out.setPc (S.pc + 1)).setSt 0)
 have TZ := Lib.hid ((TY.out.setCell (p := ⟨g, 77, none⟩) (Or.inl rfl) (.int .i64 (S.pc + 1 : Nat))).setCell (p := ⟨g, 79, none⟩) (Or.inl rfl) (.int .i64 0))
 go_wp2_with fail
 go_ret
 exact ⟨rfl, by rw [← HS.out]; exact MZ.out, TZ.out⟩

end Go.Proofs.YtikkmkomlajnfaaGreatDoor.En
end

section
namespace Go.Proofs.YtikkmkomlajnfaaGreatDoor.En
set_option maxRecDepth 100000
set_option maxHeartbeats 4000000
open Go.RowKit
open Go.Proofs.YtikkmkomlajnfaaGreatDoor.Op (InstV insc insVal inss ins0 ins_at rightV right_is RightI Frm goesV writesV sourceV)

attribute [local go_sem] uv_nonneg uv_wrap uv_add uv_sub uv_add1 uv_sub1 uv_not uv_notMax u64_signed

theorem own_none {w : World} {base : Nat} {e : TypeId} {size n c : Nat} {xs : List Value} (h : w.ownsRow base e size (.slice none n c) n xs) : n = 0 ∧ c = 0 := by
 rcases h.2 with ⟨h1, h2⟩ | ⟨g, cap, cur, hv, _⟩
 · first
   | (injection h1 with _ a b; exact ⟨a, b⟩)
   | (injection h2 with _ a b; exact ⟨a, b⟩)
 injection hv with a _ _; cases a
theorem u64_info : (Tryz.prog.info? 26).map (fun i => (i.zero, i.size, i.bytes)) = some (some (.int .u64 0), 1, 8) := by kernel_rfl
theorem int_info : (Tryz.prog.info? 3).map (fun i => (i.zero, i.size, i.bytes)) = some (some (.int .i64 0), 1, 8) := by kernel_rfl
theorem inst_info : (Tryz.prog.info? 59).map (fun i => (i.zero, i.size, i.bytes)) = some (some (.agg #[.int .i64 0, .int .i64 0, .int .i64 0, .int .i64 0, .int .i64 0]), 5, 40) := by kernel_rfl

theorem ob_setRow {w : World} {g : Nat} {t : TypeId} {cs : List Value} (h : Ob w g t cs) (cs' : List Value) : Ob (w.setRow g cs'.toArray) g t cs' := setRow_heap w g _ _ t (0, 0) h
theorem Only.setRow (w : World) (g : Nat) (cs : Array Value) : Only w (w.setRow g cs) g :=
 ⟨rfl, rfl, rfl, by simp [World.setRow], fun i hi hne => by
  have : i ≠ g := fun e => hne (by rw [e])
  simp only [World.setRow, Array.getElem?_modify]
  rw [if_neg (fun e => this e.symm)]⟩

theorem zero16 : (Builtin.zeroCells (Value.int .u64 0).cells 16).toList = arr 16 Sc.zz := by kernel_rfl

theorem run_wipe (ty : TypeId) (g o : Nat) (t : TypeId) (pre post : List Value) (ks : Nat → BitVec 64) (ho : o = pre.length) (w : World) (hob : Ob w g t (pre ++ (arr 16 ks ++ post))) :
 (Builtin.clear_ #[105] ty #[.slice (some ⟨g, o, none⟩) 16 16]).run Tryz.prog w = .ok (.tuple #[]) (w.setRow g (pre ++ (arr 16 Sc.zz ++ post)).toArray) := by
 obtain ⟨i0, hi0, hz0, hz1, hz2⟩ := info_parts u64_info
 have hst := run_storeCells_at Tryz.prog g o t (arr 16 Sc.zz) 0 (pre ++ (arr 16 ks ++ post)).toArray w hob (by simp [arr_length, ho]) (arr_one _ _)
 have hcs : ((pre ++ (arr 16 ks ++ post)).toArray.toList.take (o + 0) ++ arr 16 Sc.zz ++ (pre ++ (arr 16 ks ++ post)).toArray.toList.drop (o + 0 + (arr 16 Sc.zz).length)) = pre ++ (arr 16 Sc.zz ++ post) := by
  rw [arr_length, ho, Nat.add_zero, List.append_assoc]
  show List.take pre.length (pre ++ (arr 16 ks ++ post)) ++ (arr 16 Sc.zz ++ List.drop (pre.length + 16) (pre ++ (arr 16 ks ++ post))) = _
  rw [List.take_left, List.drop_append, List.drop_left' (by rw [arr_length]; omega)]
  simp [arr_length]
 rw [hcs] at hst
 simp [Builtin.clear_, run_underlying Tryz.underlying105, zeroValue, typeInfo, hi0, hz0, zero16, hst]

theorem wipe_any (g o : Nat) (t : TypeId) (pre post : List Value) (ks : Nat → BitVec 64) (ho : o = pre.length) (w : World) (hob : Ob w g t (pre ++ (arr 16 ks ++ post))) :
 Calls Tryz.prog 57 #[.pointer (some ⟨g, o, none⟩)] w (Sc.Made w g t (.tuple #[]) (pre ++ (arr 16 Sc.zz ++ post))) := by
 have hrun := fun ty => run_wipe ty g o t pre post ks ho w hob
 have HO := Lib.hid hob
 clear hob ho
 go_enter Tryz.func57, Tryz.ntmps57
 go_wp2
 go_end0
 exact ⟨rfl, ob_setRow HO.out _, Only.setRow _ _ _⟩


theorem cloneI_any (w : World) (A : Option Addr) (n c : Nat) (xs : List Value) (hl : xs.length = n * 1) (h0 : A = none → n = 0 ∧ c = 0) (h1 : ∀ u ∈ xs, u.oneCell' = true) (hb : n * 8 ≤ 140737488355328) (hs : Sl w A xs) :
 Calls Tryz.prog 58 #[.slice A n c] w fun e w' => (∃ A' c', e = .returned (.slice A' n c') ∧ n ≤ c' ∧ Sl w' A' xs ∧ (∀ a, A' = some a → w.heap.size ≤ a.block ∧ a.block < w'.heap.size) ∧ (A' = none → n = 0 ∧ c' = 0)) ∧ Below w.heap.size w w' := by
 have HL := Lib.hid hl
 have HS := Lib.hid hs
 have H1 := Lib.hid h1
 have HB := Lib.hid hb
 have H0 := Lib.hid h0
 obtain ⟨i0, hi0, hz0, hz1, hz2⟩ := info_parts int_info
 clear hl hs h1 hb h0
 have HQ := fun (w : World) (A : Option Addr) (n c : Nat) => Lib.run_eql_slice_nil (P := Tryz.prog) w 22 3 A n c 0 0 Tryz.underlying22
 cases A with
 | none =>
   obtain ⟨hn, hc⟩ := H0.out rfl
   subst hn
   subst hc
   have hx := List.eq_nil_of_length_eq_zero (HL.out.trans (Nat.zero_mul _))
   subst hx
   have hq := HQ w none 0 0
   clear HQ
   go_enter Tryz.func58, Tryz.ntmps58
   go_wp2_with fail
   go_ret
   exact ⟨⟨none, 0, rfl, by simp [Sl.nil]⟩, Below.refl _ _⟩
 | some p =>
   have B0 := Lib.hid (below_alloc (Below.refl w.heap.size w) (.cells #[] 3))
   have hq := HQ w (some p) n c
   clear HQ
   go_enter Tryz.func58, Tryz.ntmps58
   go_wp2_with
   (at_builtin
    refine wpList_append_in _ rfl (.tmp 5) (.tmp 6) _ rfl B0.out 3 i0 _ 1 8 Tryz.underlying22 hi0 hz0 hz1 hz2 rfl (by omega) (.slice (some ⟨w.heap.size, 0, none⟩) 0 0) 0 [] rfl (own_empty (Below.refl _ _) 3 1)
     (some p) n c xs rfl HL.out (HS.out.alloc _) H1.out (by rw [Nat.zero_add]; exact HB.out) (by omega) ?_
    intro v2 w3 hown hb2 g1' g2'
    have HR := Lib.hid hown
    have HB4 := Lib.hid hb2
    clear hown hb2 g1' g2')
   rw [Nat.zero_add, List.nil_append] at HR
   obtain ⟨A', c', hu, hle, _, hsl, hbase⟩ := own_form HR.out
   subst hu
   go_ret
   exact ⟨⟨A', c', rfl, hle, hsl, fun a h => hbase a h, fun h => own_none (h ▸ HR.out)⟩, HB4.out⟩

theorem cloneC_any (w : World) (A : Option Addr) (n c : Nat) (xs : List Value) (hl : xs.length = n * 5) (h0 : A = none → n = 0 ∧ c = 0) (h1 : ∀ u ∈ xs, u.oneCell' = true) (hb : n * 40 ≤ 140737488355328) (hs : Sl w A xs) :
 Calls Tryz.prog 59 #[.slice A n c] w fun e w' => (∃ A' c', e = .returned (.slice A' n c') ∧ n ≤ c' ∧ Sl w' A' xs ∧ (∀ a, A' = some a → w.heap.size ≤ a.block ∧ a.block < w'.heap.size) ∧ (A' = none → n = 0 ∧ c' = 0)) ∧ Below w.heap.size w w' := by
 have HL := Lib.hid hl
 have HS := Lib.hid hs
 have H1 := Lib.hid h1
 have HB := Lib.hid hb
 have H0 := Lib.hid h0
 obtain ⟨i0, hi0, hz0, hz1, hz2⟩ := info_parts inst_info
 clear hl hs h1 hb h0
 have HQ := fun (w : World) (A : Option Addr) (n c : Nat) => Lib.run_eql_slice_nil (P := Tryz.prog) w 23 59 A n c 0 0 Tryz.underlying23
 cases A with
 | none =>
   obtain ⟨hn, hc⟩ := H0.out rfl
   subst hn
   subst hc
   have hx := List.eq_nil_of_length_eq_zero (HL.out.trans (Nat.zero_mul _))
   subst hx
   have hq := HQ w none 0 0
   clear HQ
   go_enter Tryz.func59, Tryz.ntmps59
   go_wp2_with fail
   go_ret
   exact ⟨⟨none, 0, rfl, by simp [Sl.nil]⟩, Below.refl _ _⟩
 | some p =>
   have B0 := Lib.hid (below_alloc (Below.refl w.heap.size w) (.cells #[] 59))
   have hq := HQ w (some p) n c
   clear HQ
   go_enter Tryz.func59, Tryz.ntmps59
   go_wp2_with
   (at_builtin
    refine wpList_append_in _ rfl (.tmp 5) (.tmp 6) _ rfl B0.out 59 i0 _ 5 40 Tryz.underlying23 hi0 hz0 hz1 hz2 rfl (by omega) (.slice (some ⟨w.heap.size, 0, none⟩) 0 0) 0 [] rfl (own_empty (Below.refl _ _) 59 5)
     (some p) n c xs rfl HL.out (HS.out.alloc _) H1.out (by rw [Nat.zero_add]; exact HB.out) (by omega) ?_
    intro v2 w3 hown hb2 g1' g2'
    have HR := Lib.hid hown
    have HB4 := Lib.hid hb2
    clear hown hb2 g1' g2')
   rw [Nat.zero_add, List.nil_append] at HR
   obtain ⟨A', c', hu, hle, _, hsl, hbase⟩ := own_form HR.out
   subst hu
   go_ret
   exact ⟨⟨A', c', rfl, hle, hsl, fun a h => hbase a h, fun h => own_none (h ▸ HR.out)⟩, HB4.out⟩

end Go.Proofs.YtikkmkomlajnfaaGreatDoor.En
end
