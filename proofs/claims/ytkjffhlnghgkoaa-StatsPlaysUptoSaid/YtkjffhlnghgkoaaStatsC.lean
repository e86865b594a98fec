/-
  Of of tappetref20 (what was told is counted), Of of the Stats out of range, Merge of none. Conditions: those of each theorem.
-/
import Derived.Test.YtkjffhlnghgkoaaStatsB
namespace Go.Proofs.Ytkjffhlnghgkoaa
open Go.RowKit

attribute [local go_sem] uv_nonneg uv_wrap uv_add uv_sub uv_add1 uv_sub1

def tTly (t : ToldV) : Tly := if t.miss then oneMiss else oneRun t.s t.c t.r
/-- the twenty numbers of what was told -/
def cnt (l : List ToldV) : Nat → BitVec 64 := l.foldl (fun H t => addAt H t.hook (tTly t)) fun _ => 0#64
theorem cnt_snoc (l : List ToldV) (t : ToldV) : cnt (l ++ [t]) = addAt (cnt l) t.hook (tTly t) := by unfold cnt; rw [List.foldl_append]; rfl
theorem cnt_take (l : List ToldV) (k : Nat) (h : k < l.length) : cnt (l.take (k + 1)) = addAt (cnt (l.take k)) (l.getD k told0).hook (tTly (l.getD k told0)) := by
  rw [List.take_succ_eq_append_getElem h, cnt_snoc, List.getD_eq_getElem?_getD, List.getElem?_eq_getElem h]; rfl
theorem arr_tl_far (H : Nat → BitVec 64) (h k : Nat) (t : Tly) (hne : k ≠ h) : arr 5 (tl (addAt H h t) k) = arr 5 (tl H k) := arr_congr fun j hj => by
  rw [tl_addAt H h k t j hj, if_neg hne]
theorem arr_tl_at (H : Nat → BitVec 64) (h : Nat) (t : Tly) : arr 5 (tl (addAt H h t) h) = arr 5 (tAdd (tl H h) t) := arr_congr fun j hj => by
  rw [tl_addAt H h h t j hj, if_pos rfl]; rfl

theorem tAdd_run (f : Tly) (s c r : BitVec 64) : arr 5 (upd (upd (upd (upd f 0 (f 0 + 1#64)) 2 (f 2 + s)) 3 (f 3 + c)) 4 (f 4 + r)) = arr 5 (tAdd f (tTly ⟨0, false, s, c, r⟩)) := arr_congr fun j hj => by
  match j, hj with
  | 0, _ => simp [upd, tAdd, tTly, oneRun]
  | 1, _ => simp [upd, tAdd, tTly, oneRun]
  | 2, _ => simp [upd, tAdd, tTly, oneRun]
  | 3, _ => simp [upd, tAdd, tTly, oneRun]
  | 4, _ => simp [upd, tAdd, tTly, oneRun]
theorem tAdd_miss (f : Tly) : arr 5 (upd f 1 (f 1 + 1#64)) = arr 5 (tAdd f oneMiss) := arr_congr fun j hj => by
  match j, hj with
  | 0, _ => simp [upd, tAdd, oneMiss]
  | 1, _ => simp [upd, tAdd, oneMiss]
  | 2, _ => simp [upd, tAdd, oneMiss]
  | 3, _ => simp [upd, tAdd, oneMiss]
  | 4, _ => simp [upd, tAdd, oneMiss]

/-- the slice reads as this list -/
def RdTold (w : World) (A : Option Addr) (l : List ToldV) : Prop := Sl w A (tdvs l)
theorem RdTold.at_ {w : World} {A : Option Addr} {l : List ToldV} (h : RdTold w A l) (hn : 0 < l.length) :
    ∃ b o, A = some ⟨b, o, none⟩ ∧ b < w.heap.size ∧ ∀ k, k < l.length → ∀ j, j < 5 → w.cell? ⟨b, o + k * 5 + j, none⟩ = some ((tdv (l.getD k told0)).getD j undef) := by
  obtain ⟨b, o, e, hc⟩ := h (by rw [tdvs_length]; omega)
  rw [tdvs_length] at hc
  refine ⟨b, o, e, cell_lt (hc 0 (by omega)), fun k hk j hj => ?_⟩
  have h1 := hc (k * 5 + j) (by omega)
  rw [← Nat.add_assoc] at h1
  rw [h1, List.getD_eq_getElem?_getD, tdvs_get l k j hk hj, ← List.getD_eq_getElem?_getD]

set_option maxRecDepth 100000 in
set_option maxHeartbeats 2000000 in
theorem ref_of_in (w : World) (A : Option Addr) (l : List ToldV) (n c h : Nat) (hn : n = l.length) (hmax : n ≤ 461168601842738790) (hh : h < 4) (hs : RdTold w A l) :
    Calls Try.prog 14 #[.slice A n c, .int .i64 h] w fun e w' => e = .returned (.tuple #[tVal (tl (cnt l) h), .int .i64 0]) ∧ Below w.heap.size w w' := by
  have HS := Lib.hid hs
  have HN := Lib.hid hn
  clear hs hn
  go_enter Try.func14, Try.ntmps14
  go_wp2_with fail
  go_loopw [7] (fun i wr => ∃ k : Nat, k ≤ n ∧ i = .int .i64 k ∧ Ob wr (w.heap.size + 1) 26 ([] ++ (arr 5 (tl (cnt (l.take k)) h) ++ [])) ∧ Ob wr w.heap.size 26 (arr 5 z5) ∧ Below w.heap.size w wr) (fun i _ => n - (intOf i).toNat)
  case atStart =>
    refine ⟨0, Nat.zero_le _, rfl, ?_, ?_, ?_⟩
    · have h := Ob.fresh (w.alloc (.cells (arr 5 z5).toArray 26)) 26 (arr 5 z5)
      have e : (w.alloc (.cells (arr 5 z5).toArray 26)).heap.size = w.heap.size + 1 := by simp
      rw [e] at h
      exact h
    · exact Ob.alloc (Ob.fresh w 26 (arr 5 z5)) _
    · exact below_alloc (below_alloc (Below.refl _ _) _) _
  case round =>
    obtain ⟨k, hk, rfl, hob, hor, hbl⟩ := hrel
    have HOB := Lib.hid hob
    have HOR := Lib.hid hor
    have HBL := Lib.hid hbl
    clear hob hor hbl
    by_cases hlt : k < n
    · have hkl : k < l.length := by have := HN.out; omega
      obtain ⟨b, o, rfl, hbl, hcc⟩ := HS.out.at_ (by omega)
      have hcell : ∀ j, j < 5 → wr.cell? ⟨b, o + k * 5 + j, none⟩ = some ((tdv (l.getD k told0)).getD j undef) := fun j hj => by
        rw [HBL.out.cell hbl]; exact hcc k hkl j hj
      clear hcc
      have f0 : wr.cell? ⟨b, o + k * 5, none⟩ = some ((tdv (l.getD k told0)).getD 0 undef) := hcell 0 (by omega)
      have f1 := hcell 1 (by omega)
      have f2 := hcell 2 (by omega)
      have f3 := hcell 3 (by omega)
      have f4 := hcell 4 (by omega)
      have HT := Lib.hid (cnt_take l k hkl)
      clear hcell
      have g1 : (k : Int) < (n : Int) := by omega
      generalize l.getD k told0 = t at f0 f1 f2 f3 f4 HT
      generalize cnt (l.take k) = F at HOB HT
      have HM : Hid (Ob wr (w.heap.size + 1) 26 ([] ++ (arr 5 (tl F h) ++ []))) := HOB
      clear HOB
      obtain ⟨x, m, s, c', r⟩ := t
      replace f0 : wr.cell? ⟨b, o + k * 5, none⟩ = some (.int .i64 x) := f0
      replace f1 : wr.cell? ⟨b, o + k * 5 + 1, none⟩ = some (.bool m) := f1
      replace f2 : wr.cell? ⟨b, o + k * 5 + 2, none⟩ = some (.int .u64 (uv s)) := f2
      replace f3 : wr.cell? ⟨b, o + k * 5 + 3, none⟩ = some (.int .u64 (uv c')) := f3
      replace f4 : wr.cell? ⟨b, o + k * 5 + 4, none⟩ = some (.int .u64 (uv r)) := f4
      have hN : w.heap.size + 1 < wr.heap.size := HM.out.lt
      by_cases hx : x = h
      · subst hx
        have HE := Lib.hid (show arr 5 (tl (cnt (l.take (k + 1))) x) = arr 5 (tAdd (tl F x) (tTly ⟨x, m, s, c', r⟩)) by rw [HT.out, arr_tl_at])
        generalize tl F x = f at HM HE
        have a0 : wr.cell? ⟨w.heap.size + 1, 0, none⟩ = some (.int .u64 (uv (f 0))) := HM.out.cell 0
        have a1 : wr.cell? ⟨w.heap.size + 1, 1, none⟩ = some (.int .u64 (uv (f 1))) := HM.out.cell 1
        have a2 : wr.cell? ⟨w.heap.size + 1, 2, none⟩ = some (.int .u64 (uv (f 2))) := HM.out.cell 2
        have a3 : wr.cell? ⟨w.heap.size + 1, 3, none⟩ = some (.int .u64 (uv (f 3))) := HM.out.cell 3
        have a4 : wr.cell? ⟨w.heap.size + 1, 4, none⟩ = some (.int .u64 (uv (f 4))) := HM.out.cell 4
        have z0 : ∀ i, wr.frozen? ⟨w.heap.size + 1, i, none⟩ = false := HM.out.frozen
        cases m
        · have HE2 := Lib.hid (HE.out.trans (tAdd_run f s c' r).symm)
          go_wp2_with fail
          go_region
          go_wp2_with fail
          go_region
          go_wp2_with fail
          go_region
          go_wp2_with fail
          refine ⟨⟨k + 1, by omega, by go_num, ?_, ?_, ?_⟩, by simp [intOf]; omega⟩
          · rw [HE2.out]
            exact ((((((HM.out.put 0 (by omega) (f 0 + 1#64)).put 2 (by omega) (f 2 + s)).put 3 (by omega) (f 3 + c')).put 4 (by omega) (f 4 + r)).drew).drew).drew
          · exact ((((((HOR.out.far (by simp) _).far (by simp) _).far (by simp) _).far (by simp) _).drew).drew).drew
          · exact ((((((HBL.out.setCell (by simp) _).setCell (by simp) _).setCell (by simp) _).setCell (by simp) _).drew).drew).drew
        · have HE2 := Lib.hid (HE.out.trans (tAdd_miss f).symm)
          go_wp2_with fail
          refine ⟨⟨k + 1, by omega, by go_num, ?_, ?_, ?_⟩, by simp [intOf]; omega⟩
          · rw [HE2.out]
            exact HM.out.put 1 (by omega) (f 1 + 1#64)
          · exact HOR.out.far (by simp) _
          · exact HBL.out.setCell (by simp) _
      · have hx' : ((x : Int) == (h : Int)) = false := by simp; omega
        have HE := Lib.hid (show arr 5 (tl (cnt (l.take (k + 1))) h) = arr 5 (tl F h) by rw [HT.out, arr_tl_far _ _ _ _ (Ne.symm hx)])
        go_wp2_with fail
        refine ⟨⟨k + 1, by omega, by go_num, ?_, HOR.out, HBL.out⟩, by simp [intOf]; omega⟩
        rw [HE.out]
        exact HM.out
    · have hkn : k = n := by omega
      have e8 : l.take k = l := by rw [hkn, HN.out, List.take_length]
      rw [e8] at HOB
      clear hkn e8
      generalize hf : tl (cnt l) h = f at HOB
      have HF := Lib.hid hf
      clear hf
      have a0 := HOB.out.at_ 0 (by omega)
      have a1 := HOB.out.at_ 1 (by omega)
      have a2 := HOB.out.at_ 2 (by omega)
      have a3 := HOB.out.at_ 3 (by omega)
      have a4 := HOB.out.at_ 4 (by omega)
      simp only [List.length_nil, Nat.zero_add] at a0 a1 a2 a3 a4
      have z0 : ∀ i, wr.frozen? ⟨w.heap.size, i, none⟩ = false := HOR.out.frozen
      have r0 : wr.cell? ⟨w.heap.size, 0, none⟩ = some (.int .u64 0) := HOR.out.cell 0
      have r1 : wr.cell? ⟨w.heap.size, 1, none⟩ = some (.int .u64 0) := HOR.out.cell 1
      have r2 : wr.cell? ⟨w.heap.size, 2, none⟩ = some (.int .u64 0) := HOR.out.cell 2
      have r3 : wr.cell? ⟨w.heap.size, 3, none⟩ = some (.int .u64 0) := HOR.out.cell 3
      have r4 : wr.cell? ⟨w.heap.size, 4, none⟩ = some (.int .u64 0) := HOR.out.cell 4
      go_wp2_with fail
      have hw : Below w.heap.size w (((((wr.setCell ⟨w.heap.size, 0, none⟩ (.int .u64 (uv (f 0)))).setCell ⟨w.heap.size, 1, none⟩ (.int .u64 (uv (f 1)))).setCell ⟨w.heap.size, 2, none⟩ (.int .u64 (uv (f 2)))).setCell ⟨w.heap.size, 3, none⟩ (.int .u64 (uv (f 3)))).setCell ⟨w.heap.size, 4, none⟩ (.int .u64 (uv (f 4)))) :=
        ((((HBL.out.setCell (by simp) _).setCell (by simp) _).setCell (by simp) _).setCell (by simp) _).setCell (by simp) _
      have ho : Ob (((((wr.setCell ⟨w.heap.size, 0, none⟩ (.int .u64 (uv (f 0)))).setCell ⟨w.heap.size, 1, none⟩ (.int .u64 (uv (f 1)))).setCell ⟨w.heap.size, 2, none⟩ (.int .u64 (uv (f 2)))).setCell ⟨w.heap.size, 3, none⟩ (.int .u64 (uv (f 3)))).setCell ⟨w.heap.size, 4, none⟩ (.int .u64 (uv (f 4)))) w.heap.size 26 (arr 5 f) :=
        ((((HOR.out.set_ 0 _).set_ 1 _).set_ 2 _).set_ 3 _).set_ 4 _
      generalize ((((wr.setCell ⟨w.heap.size, 0, none⟩ (.int .u64 (uv (f 0)))).setCell ⟨w.heap.size, 1, none⟩ (.int .u64 (uv (f 1)))).setCell ⟨w.heap.size, 2, none⟩ (.int .u64 (uv (f 2)))).setCell ⟨w.heap.size, 3, none⟩ (.int .u64 (uv (f 3)))).setCell ⟨w.heap.size, 4, none⟩ (.int .u64 (uv (f 4))) = w2 at hw ho ⊢
      have s0 : w2.cell? ⟨w.heap.size, 0, none⟩ = some (.int .u64 (uv (f 0))) := ho.cell 0
      have s1 : w2.cell? ⟨w.heap.size, 1, none⟩ = some (.int .u64 (uv (f 1))) := ho.cell 1
      have s2 : w2.cell? ⟨w.heap.size, 2, none⟩ = some (.int .u64 (uv (f 2))) := ho.cell 2
      have s3 : w2.cell? ⟨w.heap.size, 3, none⟩ = some (.int .u64 (uv (f 3))) := ho.cell 3
      have s4 : w2.cell? ⟨w.heap.size, 4, none⟩ = some (.int .u64 (uv (f 4))) := ho.cell 4
      exact bodyPost_ret (v := .tuple #[tVal f, .int .i64 0]) (by simp [results, Try.results14, go_sem, tVal, s0, s1, s2, s3, s4]) rfl ⟨by rw [HF.out], hw⟩

set_option maxRecDepth 100000 in
set_option maxHeartbeats 1000000 in
theorem ref_of_out (w : World) (v : Value) (h : Int) (hh : ¬ Hook h) :
    Calls Try.prog 14 #[v, .int .i64 h] w fun e w' => e = .returned (.tuple #[tVal z5, .int .i64 2]) ∧ Below w.heap.size w w' := by
  have hw0 : Below w.heap.size w ((w.alloc (.cells #[.int .u64 0, .int .u64 0, .int .u64 0, .int .u64 0, .int .u64 0] 26)).alloc (.cells #[.int .u64 0, .int .u64 0, .int .u64 0, .int .u64 0, .int .u64 0] 26)) := below_alloc (below_alloc (Below.refl _ _) _) _
  have ho0 : Ob ((w.alloc (.cells #[.int .u64 0, .int .u64 0, .int .u64 0, .int .u64 0, .int .u64 0] 26)).alloc (.cells #[.int .u64 0, .int .u64 0, .int .u64 0, .int .u64 0, .int .u64 0] 26)) w.heap.size 26 (arr 5 z5) := Ob.alloc (Ob.fresh w 26 (arr 5 z5)) _
  have HW := Lib.hid hw0
  have HO := Lib.hid ho0
  clear hw0 ho0
  by_cases h0 : h < 0
  · clear hh
    go_enter Try.func14, Try.ntmps14
    go_wp2_with fail
    generalize (w.alloc (.cells #[.int .u64 0, .int .u64 0, .int .u64 0, .int .u64 0, .int .u64 0] 26)).alloc (.cells #[.int .u64 0, .int .u64 0, .int .u64 0, .int .u64 0, .int .u64 0] 26) = w2 at HW HO ⊢
    have s0 : w2.cell? ⟨w.heap.size, 0, none⟩ = some (.int .u64 (uv (z5 0))) := HO.out.cell 0
    have s1 : w2.cell? ⟨w.heap.size, 1, none⟩ = some (.int .u64 (uv (z5 1))) := HO.out.cell 1
    have s2 : w2.cell? ⟨w.heap.size, 2, none⟩ = some (.int .u64 (uv (z5 2))) := HO.out.cell 2
    have s3 : w2.cell? ⟨w.heap.size, 3, none⟩ = some (.int .u64 (uv (z5 3))) := HO.out.cell 3
    have s4 : w2.cell? ⟨w.heap.size, 4, none⟩ = some (.int .u64 (uv (z5 4))) := HO.out.cell 4
    exact bodyPost_ret (v := .tuple #[tVal z5, .int .i64 2]) (by simp [results, Try.results14, go_sem, tVal, s0, s1, s2, s3, s4]) rfl ⟨rfl, HW.out⟩
  · have h1 : 3 < h := by unfold Hook at hh; omega
    clear hh
    go_enter Try.func14, Try.ntmps14
    go_wp2_with fail
    generalize (w.alloc (.cells #[.int .u64 0, .int .u64 0, .int .u64 0, .int .u64 0, .int .u64 0] 26)).alloc (.cells #[.int .u64 0, .int .u64 0, .int .u64 0, .int .u64 0, .int .u64 0] 26) = w2 at HW HO ⊢
    have s0 : w2.cell? ⟨w.heap.size, 0, none⟩ = some (.int .u64 (uv (z5 0))) := HO.out.cell 0
    have s1 : w2.cell? ⟨w.heap.size, 1, none⟩ = some (.int .u64 (uv (z5 1))) := HO.out.cell 1
    have s2 : w2.cell? ⟨w.heap.size, 2, none⟩ = some (.int .u64 (uv (z5 2))) := HO.out.cell 2
    have s3 : w2.cell? ⟨w.heap.size, 3, none⟩ = some (.int .u64 (uv (z5 3))) := HO.out.cell 3
    have s4 : w2.cell? ⟨w.heap.size, 4, none⟩ = some (.int .u64 (uv (z5 4))) := HO.out.cell 4
    exact bodyPost_ret (v := .tuple #[tVal z5, .int .i64 2]) (by simp [results, Try.results14, go_sem, tVal, s0, s1, s2, s3, s4]) rfl ⟨rfl, HW.out⟩

set_option maxRecDepth 100000 in
set_option maxHeartbeats 1000000 in
theorem of_out (w : World) (p : Value) (h : Int) (hh : ¬ Hook h) :
    Calls Try.prog 13 #[p, .int .i64 h] w fun e w' => e = .returned (.tuple #[tVal z5, .int .i64 2]) ∧ Below w.heap.size w w' := by
  have hw0 : Below w.heap.size w (w.alloc (.cells #[.int .u64 0, .int .u64 0, .int .u64 0, .int .u64 0, .int .u64 0] 26)) := below_alloc (Below.refl _ _) _
  have ho0 : Ob (w.alloc (.cells #[.int .u64 0, .int .u64 0, .int .u64 0, .int .u64 0, .int .u64 0] 26)) w.heap.size 26 (arr 5 z5) := Ob.fresh w 26 (arr 5 z5)
  have HW := Lib.hid hw0
  have HO := Lib.hid ho0
  clear hw0 ho0
  go_enter Try.func13, Try.ntmps13
  go_wp2_with fail
  refine (known_out h hh _).mono ?_
  rintro e w' ⟨rfl, rfl⟩
  go_wp2_with fail
  generalize w.alloc (.cells #[.int .u64 0, .int .u64 0, .int .u64 0, .int .u64 0, .int .u64 0] 26) = w2 at HW HO ⊢
  have s0 : w2.cell? ⟨w.heap.size, 0, none⟩ = some (.int .u64 (uv (z5 0))) := HO.out.cell 0
  have s1 : w2.cell? ⟨w.heap.size, 1, none⟩ = some (.int .u64 (uv (z5 1))) := HO.out.cell 1
  have s2 : w2.cell? ⟨w.heap.size, 2, none⟩ = some (.int .u64 (uv (z5 2))) := HO.out.cell 2
  have s3 : w2.cell? ⟨w.heap.size, 3, none⟩ = some (.int .u64 (uv (z5 3))) := HO.out.cell 3
  have s4 : w2.cell? ⟨w.heap.size, 4, none⟩ = some (.int .u64 (uv (z5 4))) := HO.out.cell 4
  exact bodyPost_ret (v := .tuple #[tVal z5, .int .i64 2]) (by simp [results, Try.results13, go_sem, tVal, s0, s1, s2, s3, s4]) rfl ⟨rfl, HW.out⟩

set_option maxRecDepth 100000 in
set_option maxHeartbeats 1000000 in
theorem merge_none (A : Option Addr) (c : Nat) (w : World) :
    Calls Try.prog 15 #[.slice A 0 c] w fun e w' => ∃ g, e = .returned (.slice (some ⟨g, 0, none⟩) 4 4) ∧ w.heap.size ≤ g ∧ Ob w' g 26 ([] ++ (arr 20 (fun _ => 0#64) ++ [])) ∧ Below w.heap.size w w' := by
  have hmk := make4 w
  have HO0 := Lib.hid (Ob.fresh w 26 (arr 20 (fun _ => 0#64)))
  have HB0 := Lib.hid (below_alloc (Below.refl w.heap.size w) (.cells (arr 20 (fun _ => 0#64)).toArray 26))
  go_enter Try.func15, Try.ntmps15
  go_upto_region 2 with fail
  generalize w.alloc (.cells (arr 20 (fun _ => 0#64)).toArray 26) = w1 at HO0 HB0 ⊢
  clear hmk
  go_wp2_with fail
  refine wp_loop_rounds 1 ?_
  rw [rounds_succ]
  go_wp2_with fail
  go_ret
  exact ⟨w.heap.size, rfl, Nat.le_refl _, by simpa using HO0.out, HB0.out⟩

end Go.Proofs.Ytkjffhlnghgkoaa
