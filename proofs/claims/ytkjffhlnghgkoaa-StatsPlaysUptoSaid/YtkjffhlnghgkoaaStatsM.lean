/-
  Merge of the layer stats. Conditions: none.
-/
import Derived.Test.YtkjffhlnghgkoaaStatsR
namespace Go.Proofs.Ytkjffhlnghgkoaa
open Go.RowKit

attribute [local go_sem] uv_nonneg uv_wrap uv_add uv_sub uv_add1 uv_sub1

/-- a Stats, or nil: its block and its twenty numbers -/
abbrev Item := Option (Nat × (Nat → BitVec 64))
def ptrOf : Item → Value
  | none => .pointer none
  | some x => .pointer (some ⟨x.1, 0, none⟩)
def cntOf (j : Nat) : Item → BitVec 64
  | none => 0#64
  | some x => x.2 j
def tot (l : List Item) : Nat → BitVec 64 := fun j => l.foldl (fun a x => a + cntOf j x) 0#64
def ItemAt (w : World) : Item → Prop
  | none => True
  | some x => StatAt w x.1 x.2
theorem tot_snoc (l : List Item) (x : Item) : tot (l ++ [x]) = fun j => tot l j + cntOf j x := by
  funext j; simp [tot, List.foldl_append]
theorem tot_take (l : List Item) (k : Nat) (h : k < l.length) : tot (l.take (k + 1)) = fun j => tot (l.take k) j + cntOf j l[k] := by
  rw [List.take_succ_eq_append_getElem h, tot_snoc]

theorem index20 (H : Nat → BitVec 64) : ∀ (k : Nat) (_ : k < 4) (w : World),
    (Instr.index 52 (.agg (arr 20 H).toArray) (.int .i64 (k : Int))).run Try.prog w =
      .ok (.agg #[.int .u64 (uv (tl H k 0)), .int .u64 (uv (tl H k 1)), .int .u64 (uv (tl H k 2)), .int .u64 (uv (tl H k 3)), .int .u64 (uv (tl H k 4))]) w
  | 0, _, _ => by kernel_rfl
  | 1, _, _ => by kernel_rfl
  | 2, _, _ => by kernel_rfl
  | 3, _, _ => by kernel_rfl

theorem make4 (w : World) : (Instr.makeSlice 22 (.int .i64 4) (.int .i64 4)).run Try.prog w = .ok (.slice (some ⟨w.heap.size, 0, none⟩) 4 4) (w.alloc (.cells (arr 20 (fun _ => 0#64)).toArray 26)) := by kernel_rfl

/-- the merged numbers when k items are done, and of the next one h hooks -/
def part (F G : Nat → BitVec 64) (h : Nat) : Nat → BitVec 64 := fun i => if i / 5 < h then F i + G i else F i

theorem part_zero (F G : Nat → BitVec 64) : part F G 0 = F := by funext i; simp [part]
theorem part_succ (F G : Nat → BitVec 64) (h : Nat) : addAt (part F G h) h (tl G h) = part F G (h + 1) := by
  funext i
  unfold addAt part tl
  by_cases h1 : i / 5 = h
  · rw [if_pos h1, if_neg (by omega), if_pos (by omega)]
    congr 2
    omega
  · rw [if_neg h1]
    by_cases h2 : i / 5 < h
    · rw [if_pos h2, if_pos (by omega)]
    · rw [if_neg h2, if_neg (by omega)]
theorem part_end (F G : Nat → BitVec 64) : arr 20 (part F G 4) = arr 20 (fun i => F i + G i) := arr_congr fun i hi => by unfold part; rw [if_pos (by omega)]

set_option maxRecDepth 100000 in
set_option maxHeartbeats 2000000 in
theorem merge_some (items : List Item) (b o c n : Nat) (hn : n = items.length) (hmax : n ≤ 4611686018427387904) (w : World)
    (hs : ∀ j (h : j < items.length), w.cell? ⟨b, o + j, none⟩ = some (ptrOf items[j])) (hi : ∀ x ∈ items, ItemAt w x) :
    Calls Try.prog 15 #[.slice (some ⟨b, o, none⟩) n c] w fun e w' => ∃ g, e = .returned (.slice (some ⟨g, 0, none⟩) 4 4) ∧ w.heap.size ≤ g ∧ Ob w' g 26 ([] ++ (arr 20 (tot items) ++ [])) ∧ Below w.heap.size w w' := by
  have hmk := make4 w
  have HS := Lib.hid hs
  have HI := Lib.hid hi
  have HN := Lib.hid hn
  have HO0 := Lib.hid (Ob.fresh w 26 (arr 20 (fun _ => 0#64)))
  have HB0 := Lib.hid (below_alloc (Below.refl w.heap.size w) (.cells (arr 20 (fun _ => 0#64)).toArray 26))
  clear hs hi hn
  go_enter Try.func15, Try.ntmps15
  go_upto_region 2 with fail
  generalize w.alloc (.cells (arr 20 (fun _ => 0#64)).toArray 26) = w1 at HO0 HB0 ⊢
  clear hmk
  go_wp2_with fail
  go_loopw [11] (fun i wr => ∃ k : Nat, k ≤ n ∧ i = .int .i64 k ∧ Ob wr w.heap.size 26 ([] ++ (arr 20 (tot (items.take k)) ++ [])) ∧ Below w.heap.size w wr) (fun i _ => n - (intOf i).toNat)
  case atStart => exact ⟨0, Nat.zero_le _, rfl, HO0.out, HB0.out⟩
  case round =>
    obtain ⟨k, hk, rfl, hob, hbl⟩ := hrel
    have HOB := Lib.hid hob
    have HBL := Lib.hid hbl
    clear hob hbl
    by_cases hlt : k < n
    · have hkl : k < items.length := by have := HN.out; omega
      have hc0 := HS.out k hkl
      have f1 : wr.cell? ⟨b, o + k, none⟩ = some (ptrOf items[k]) := by rw [HBL.out.cell (cell_lt hc0)]; exact hc0
      have hit := HI.out items[k] (List.getElem_mem hkl)
      have htk := tot_take items k hkl
      generalize items[k] = x at f1 hit htk
      clear hc0
      have g1 : (k : Int) < (n : Int) := by omega
      match x, hit with
      | none, _ =>
        have HT := Lib.hid htk
        clear htk
        have f2 : wr.cell? ⟨b, o + k, none⟩ = some (.pointer none) := f1
        clear f1
        go_wp2_with fail
        go_roundw
        case rel =>
          refine ⟨k + 1, by omega, by go_num, ?_, HBL.out⟩
          have e : arr 20 (tot (items.take (k + 1))) = arr 20 (tot (items.take k)) := by rw [HT.out]; exact arr_congr fun j _ => BitVec.add_zero _
          rw [e]; exact HOB.out
        case measure => simp [intOf]; omega
      | some y, hit =>
        have HT := Lib.hid htk
        have HY : Hid (StatAt w y.1 y.2) := hit
        clear htk hit
        have f2 : wr.cell? ⟨b, o + k, none⟩ = some (.pointer (some ⟨y.1, 0, none⟩)) := f1
        have hyl : y.1 < w.heap.size := Ob.lt HY.out
        have HYR : Hid (Ob wr y.1 54 (arr 20 y.2)) := Ob.below HY.out HBL.out hyl
        clear f1
        have HROW : Hid (wr.heap[y.1]? = some (.cells (arr 20 y.2).toArray 54 (0, 0))) := HYR.out
        go_wp2_with ((with_reducible refine wpList_load_row ?_ 52 (.tmp 19) ?_ y.1 ?_ 54 (arr 20 y.2).toArray (0, 0) _ HROW.out Try.underlying52 ?_ ?_ ?_); rfl; rfl; rfl; rfl; kernel_rfl)
        go_loopw [21] (fun i wq => ∃ h : Nat, h ≤ 4 ∧ i = .int .i64 h ∧ Ob wq w.heap.size 26 ([] ++ (arr 20 (part (tot (items.take k)) y.2 h) ++ [])) ∧ Below w.heap.size w wq) (fun i _ => 4 - (intOf i).toNat)
        case atStart => exact ⟨0, Nat.zero_le _, rfl, by rw [part_zero]; exact HOB.out, HBL.out⟩
        case round =>
          obtain ⟨h, hh, rfl, hob, hbl⟩ := hrel
          have HOB2 := Lib.hid hob
          have HBL2 := Lib.hid hbl
          clear hob hbl
          by_cases hlt4 : h < 4
          · have hidx := fun W => index20 y.2 h hlt4 W
            have hlt5 : (h : Int) < 4 := by omega
            have hql : w.heap.size < wr.heap.size := HOB2.out.lt
            have O1 := Lib.hid (HOB2.out.alloc (.cells #[.int .u64 (uv (tl y.2 h 0)), .int .u64 (uv (tl y.2 h 1)), .int .u64 (uv (tl y.2 h 2)), .int .u64 (uv (tl y.2 h 3)), .int .u64 (uv (tl y.2 h 4))] 26))
            have T1 : Hid (Ob (wr.alloc (.cells #[.int .u64 (uv (tl y.2 h 0)), .int .u64 (uv (tl y.2 h 1)), .int .u64 (uv (tl y.2 h 2)), .int .u64 (uv (tl y.2 h 3)), .int .u64 (uv (tl y.2 h 4))] 26)) wr.heap.size 26 (arr 5 (tl y.2 h))) := Ob.fresh wr 26 (arr 5 (tl y.2 h))
            have B1 := Lib.hid (below_alloc HBL2.out (.cells #[.int .u64 (uv (tl y.2 h 0)), .int .u64 (uv (tl y.2 h 1)), .int .u64 (uv (tl y.2 h 2)), .int .u64 (uv (tl y.2 h 3)), .int .u64 (uv (tl y.2 h 4))] 26))
            go_upto_region 9 with fail
            generalize wr.alloc (.cells #[.int .u64 (uv (tl y.2 h 0)), .int .u64 (uv (tl y.2 h 1)), .int .u64 (uv (tl y.2 h 2)), .int .u64 (uv (tl y.2 h 3)), .int .u64 (uv (tl y.2 h 4))] 26) = w2 at O1 T1 B1 ⊢
            generalize wr.heap.size = q at T1 hql ⊢
            clear hidx
            have HLT := Lib.hid hlt4
            have t0 : w2.cell? ⟨q, 0, none⟩ = some (.int .u64 (uv (tl y.2 h 0))) := T1.out.cell 0
            have t1 : w2.cell? ⟨q, 1, none⟩ = some (.int .u64 (uv (tl y.2 h 1))) := T1.out.cell 1
            have t2 : w2.cell? ⟨q, 2, none⟩ = some (.int .u64 (uv (tl y.2 h 2))) := T1.out.cell 2
            have t3 : w2.cell? ⟨q, 3, none⟩ = some (.int .u64 (uv (tl y.2 h 3))) := T1.out.cell 3
            have t4 : w2.cell? ⟨q, 4, none⟩ = some (.int .u64 (uv (tl y.2 h 4))) := T1.out.cell 4
            have hps := part_succ (tot (items.take k)) y.2 h
            have HPS := Lib.hid hps
            clear hps
            generalize part (tot (items.take k)) y.2 h = F at O1 HPS
            have f0 : w2.cell? ⟨w.heap.size, h * 5, none⟩ = some (.int .u64 (uv (tl F h 0))) := ob20_cells O1.out h hlt4 0 (by omega)
            have f1 := ob20_cells O1.out h hlt4 1 (by omega)
            have f2 := ob20_cells O1.out h hlt4 2 (by omega)
            have f3 := ob20_cells O1.out h hlt4 3 (by omega)
            have f4 := ob20_cells O1.out h hlt4 4 (by omega)
            go_region_with
              (go_at_call 7
               refine (add_two w2.heap.size (tl F h) (tl y.2 h) _ (Ob.drew (Ob.fresh w2 26 (arr 5 (tl F h) ++ arr 5 (tl y.2 h))))).mono ?_
               rintro e w3 ⟨rfl, hb3⟩
               unfold tVal
               have hal : Below w2.heap.size w2 (w2.alloc (.cells (arr 5 (tl F h) ++ arr 5 (tl y.2 h)).toArray 26)).drew := ((Below.refl _ _).alloc (Nat.le_refl _) _).drew
               have B3 := Lib.hid (hal.trans (hb3.mono hal.size))
               have O3 : Hid (Ob w3 w.heap.size 26 ([] ++ (arr 20 F ++ []))) := Ob.below O1.out B3.out O1.out.lt
               have a0 : w3.cell? ⟨w.heap.size, h * 5, none⟩ = some (.int .u64 (uv (tl F h 0))) := ob20_cells O3.out h HLT.out 0 (by omega)
               have a1 := ob20_cells O3.out h HLT.out 1 (by omega)
               have a2 := ob20_cells O3.out h HLT.out 2 (by omega)
               have a3 := ob20_cells O3.out h HLT.out 3 (by omega)
               have a4 := ob20_cells O3.out h HLT.out 4 (by omega)
               have z0 : ∀ i, w3.frozen? ⟨w.heap.size, i, none⟩ = false := O3.out.frozen
               clear hb3 hal f0 f1 f2 f3 f4)
            all_goals go_wp2_with fail
            all_goals
              go_roundw
              case rel =>
                refine ⟨h + 1, by omega, by go_num, ?_, ?_⟩
                · have hp := ob20_put O3.out h HLT.out (tl y.2 h)
                  rw [HPS.out] at hp
                  exact hp
                · exact (((((B1.out.trans (B3.out.mono B1.out.size)).setCell (by simp) _).setCell (by simp) _).setCell (by simp) _).setCell (by simp) _).setCell (by simp) _
              case measure => simp [intOf]; omega
          · go_wp2_with fail
            go_roundw
            case rel =>
              refine ⟨k + 1, by omega, by go_num, ?_, HBL2.out⟩
              obtain rfl : h = 4 := by omega
              have e : arr 20 (tot (items.take (k + 1))) = arr 20 (part (tot (items.take k)) y.2 4) := by rw [HT.out, part_end]; rfl
              rw [e]
              exact HOB2.out
            case measure => simp [intOf]; omega
    · go_wp2_with fail
      go_ret
      have e8 : items.take k = items := by rw [show k = items.length by have := HN.out; omega, List.take_length]
      exact ⟨w.heap.size, rfl, Nat.le_refl _, by rw [← e8]; exact HOB.out, HBL.out⟩

end Go.Proofs.Ytkjffhlnghgkoaa
