/-
  The walks of the layer scratch. Conditions: none.
-/
import Derived.Test.YtkgiiahkednpmaaObj
import Derived.Test.YtkgiiahkednpmaaRows
import Derived.Deep.QuietTactic
import Derived.BigQuiet
import Derived.BigRegion
namespace Go.Proofs.Ytkgiiahkednpmaa
open Go.RowKit

attribute [local go_sem] uv_nonneg uv_wrap uv_add uv_sub uv_add1 uv_sub1

def zz : Nat → BitVec 64 := fun _ => 0#64
theorem upd_same (ks : Nat → BitVec 64) (j : Nat) (x : BitVec 64) : upd ks j x j = x := by simp [upd]

/-- the result, and what has become of block g -/
def Made (w : World) (g : Nat) (t : TypeId) (v : Value) (cs : List Value) (e : Ending) (w' : World) : Prop := e = .returned v ∧ Ob w' g t cs ∧ Only w w' g

set_option maxHeartbeats 400000 in
theorem new_any (w : World) :
    Calls Try.prog 8 #[] w fun e w' => e = .returned (.pointer (some ⟨w.heap.size, 0, none⟩)) ∧ w.alloc (.cells (arr 16 zz ++ (arr 16 zz ++ [])).toArray 34) = w' := by
  go_enter Try.func8, Try.ntmps8
  go_wp2
  go_ret
  exact ⟨rfl, rfl⟩

set_option maxHeartbeats 400000 in
theorem mark_in (g o j : Nat) (t : TypeId) (pre post : List Value) (ks : Nat → BitVec 64) (hj : j < 16) (ho : o = pre.length) (w : World) (hob : Ob w g t (pre ++ (arr 16 ks ++ post))) :
    Calls Try.prog 12 #[.pointer (some ⟨g, o, none⟩), .int .i64 j] w
      (Made w g t (.tuple #[.int .u64 (uv (ks j + 1#64)), .int .i64 0]) (pre ++ (arr 16 (upd ks j (ks j + 1#64)) ++ post))) := by
  have f1 : w.cell? ⟨g, o + j, none⟩ = some (.int .u64 (uv (ks j))) := by rw [ho]; exact hob.at_ j hj
  have f2 : w.frozen? ⟨g, o + j, none⟩ = false := hob.frozen _
  have HO := Lib.hid hob
  have HP := Lib.hid ho
  clear hob ho
  go_enter Try.func12, Try.ntmps12
  go_wp2
  go_region
  all_goals go_wp2
  all_goals go_ret2
  refine ⟨rfl, ?_, ((Only.refl _ _).setCell rfl _).drew⟩
  have h := (HO.out.put j hj (ks j + 1#64)).drew
  rw [← HP.out] at h
  exact h

/-- an index that is out of the array, as the two tests have it -/
def Out (n : Int) : Prop := n < 0 ∨ 16 ≤ n

set_option maxHeartbeats 400000 in
theorem mark_out (p : Value) (n : Int) (h : Out n) (w : World) :
    Calls Try.prog 12 #[p, .int .i64 n] w fun e w' => e = .returned (.tuple #[.int .u64 0, .int .i64 35]) ∧ w = w' := by
  by_cases h1 : n < 0
  · clear h
    go_enter Try.func12, Try.ntmps12
    go_wp2
    go_ret2
    exact ⟨rfl, rfl⟩
  · have h2 : 16 ≤ n := h.resolve_left h1
    have h3 : decide (n < 0) = false := by simpa using h1
    clear h h1
    go_enter Try.func12, Try.ntmps12
    go_wp2
    go_ret2
    exact ⟨rfl, rfl⟩

set_option maxHeartbeats 400000 in
theorem count_in (g o j : Nat) (t : TypeId) (pre post : List Value) (ks : Nat → BitVec 64) (hj : j < 16) (ho : o = pre.length) (w : World) (hob : Ob w g t (pre ++ (arr 16 ks ++ post))) :
    Calls Try.prog 18 #[.pointer (some ⟨g, o, none⟩), .int .i64 j] w fun e w' => e = .returned (.tuple #[.int .u64 (uv (ks j)), .int .i64 0]) ∧ w = w' := by
  have f1 : w.cell? ⟨g, o + j, none⟩ = some (.int .u64 (uv (ks j))) := by rw [ho]; exact hob.at_ j hj
  clear hob ho
  go_enter Try.func18, Try.ntmps18
  go_wp2
  go_ret2
  exact ⟨rfl, rfl⟩

set_option maxHeartbeats 400000 in
theorem count_out (p : Value) (n : Int) (h : Out n) (w : World) :
    Calls Try.prog 18 #[p, .int .i64 n] w fun e w' => e = .returned (.tuple #[.int .u64 0, .int .i64 35]) ∧ w = w' := by
  by_cases h1 : n < 0
  · clear h
    go_enter Try.func18, Try.ntmps18
    go_wp2
    go_ret2
    exact ⟨rfl, rfl⟩
  · have h2 : 16 ≤ n := h.resolve_left h1
    have h3 : decide (n < 0) = false := by simpa using h1
    clear h h1
    go_enter Try.func18, Try.ntmps18
    go_wp2
    go_ret2
    exact ⟨rfl, rfl⟩

set_option maxHeartbeats 400000 in
theorem load_in (g o j : Nat) (t : TypeId) (pre post : List Value) (ks : Nat → BitVec 64) (hj : j < 16) (ho : o = pre.length) (w : World) (hob : Ob w g t (pre ++ (arr 16 ks ++ post))) :
    Calls Try.prog 16 #[.pointer (some ⟨g, o, none⟩), .int .i64 j] w fun e w' => e = .returned (.tuple #[.int .u64 (uv (ks j)), .int .i64 0]) ∧ w = w' := by
  have f1 : w.cell? ⟨g, o + j, none⟩ = some (.int .u64 (uv (ks j))) := by rw [ho]; exact hob.at_ j hj
  clear hob ho
  go_enter Try.func16, Try.ntmps16
  go_wp2
  go_ret2
  exact ⟨rfl, rfl⟩

set_option maxHeartbeats 400000 in
theorem load_out (p : Value) (n : Int) (h : Out n) (w : World) :
    Calls Try.prog 16 #[p, .int .i64 n] w fun e w' => e = .returned (.tuple #[.int .u64 0, .int .i64 35]) ∧ w = w' := by
  by_cases h1 : n < 0
  · clear h
    go_enter Try.func16, Try.ntmps16
    go_wp2
    go_ret2
    exact ⟨rfl, rfl⟩
  · have h2 : 16 ≤ n := h.resolve_left h1
    have h3 : decide (n < 0) = false := by simpa using h1
    clear h h1
    go_enter Try.func16, Try.ntmps16
    go_wp2
    go_ret2
    exact ⟨rfl, rfl⟩

set_option maxHeartbeats 400000 in
theorem store_in (g o j : Nat) (t : TypeId) (pre post : List Value) (ks : Nat → BitVec 64) (x : BitVec 64) (hj : j < 16) (ho : o = pre.length) (w : World) (hob : Ob w g t (pre ++ (arr 16 ks ++ post))) :
    Calls Try.prog 15 #[.pointer (some ⟨g, o, none⟩), .int .i64 j, .int .u64 (uv x)] w
      (Made w g t (.int .i64 0) (pre ++ (arr 16 (upd ks j x) ++ post))) := by
  have f1 : w.cell? ⟨g, o + j, none⟩ = some (.int .u64 (uv (ks j))) := by rw [ho]; exact hob.at_ j hj
  have f2 : w.frozen? ⟨g, o + j, none⟩ = false := hob.frozen _
  have HO := Lib.hid hob
  have HP := Lib.hid ho
  clear hob ho
  go_enter Try.func15, Try.ntmps15
  go_wp2
  go_ret
  refine ⟨rfl, ?_, (Only.refl _ _).setCell rfl _⟩
  have h := HO.out.put j hj x
  rw [← HP.out] at h
  exact h

set_option maxHeartbeats 400000 in
theorem store_out (p v : Value) (n : Int) (h : Out n) (w : World) :
    Calls Try.prog 15 #[p, .int .i64 n, v] w fun e w' => e = .returned (.int .i64 35) ∧ w = w' := by
  by_cases h1 : n < 0
  · clear h
    go_enter Try.func15, Try.ntmps15
    go_wp2
    go_ret
    exact ⟨rfl, rfl⟩
  · have h2 : 16 ≤ n := h.resolve_left h1
    have h3 : decide (n < 0) = false := by simpa using h1
    clear h h1
    go_enter Try.func15, Try.ntmps15
    go_wp2
    go_ret
    exact ⟨rfl, rfl⟩

/-- Raise, after k rounds -/
def raiseTo (ks : Nat → BitVec 64) (ns : List (BitVec 64)) (k : Nat) : Nat → BitVec 64 := fun j => if j < k then ks j + wordAt ns j else ks j
def raise (ks : Nat → BitVec 64) (ns : List (BitVec 64)) : Nat → BitVec 64 := fun j => ks j + wordAt ns j
theorem raiseTo_zero (ks : Nat → BitVec 64) (ns : List (BitVec 64)) : raiseTo ks ns 0 = ks := by funext j; simp [raiseTo]
theorem raiseTo_succ (ks : Nat → BitVec 64) (ns : List (BitVec 64)) (k : Nat) : upd (raiseTo ks ns k) k (raiseTo ks ns k k + wordAt ns k) = raiseTo ks ns (k + 1) := by
  funext j
  by_cases h : j = k
  · subst h; simp [upd, raiseTo]
  · simp only [upd, if_neg h, raiseTo]
    by_cases h2 : j < k
    · rw [if_pos h2, if_pos (by omega)]
    · rw [if_neg h2, if_neg (by omega)]
theorem wordAt_out (us : List (BitVec 64)) (j : Nat) (h : us.length ≤ j) : wordAt us j = 0#64 := by
  simp [wordAt, List.getD_eq_getElem?_getD, List.getElem?_eq_none h]
theorem raiseTo_end (ks : Nat → BitVec 64) (ns : List (BitVec 64)) (k j : Nat) (hk : k = min ns.length 16) (hj : j < 16) : raiseTo ks ns k j = raise ks ns j := by
  unfold raiseTo raise
  by_cases h : j < k
  · rw [if_pos h]
  · rw [if_neg h, wordAt_out ns j (by omega), BitVec.add_zero]

set_option maxHeartbeats 800000 in
theorem raise_some (g o b p c n m : Nat) (t : TypeId) (pre post : List Value) (ks : Nat → BitVec 64) (ns : List (BitVec 64)) (hn : n = ns.length) (hm : m = min n 16) (ho : o = pre.length) (w : World)
    (hob : Ob w g t (pre ++ (arr 16 ks ++ post))) (hne : b ≠ g) (hcell : ∀ j, j < n → w.cell? ⟨b, p + j, none⟩ = some (.int .u64 (uv (wordAt ns j)))) (hmax : n ≤ 4611686018427387904) :
    Calls Try.prog 9 #[.pointer (some ⟨g, o, none⟩), .slice (some ⟨b, p, none⟩) n c] w
      (Made w g t (.tuple #[]) (pre ++ (arr 16 (raise ks ns) ++ post))) := by
  have HO := Lib.hid hob
  have HP := Lib.hid ho
  have HN := Lib.hid hn
  have HC := Lib.hid hcell
  have HM := Lib.hid hm
  clear hob ho hn hcell hm
  go_enter Try.func9, Try.ntmps9
  have hm1 : m ≤ n := by have := HM.out; omega
  have hm2 : m ≤ 16 := by have := HM.out; omega
  have hm3 : m = 16 ∨ m = n := by have := HM.out; omega
  go_wp2
  all_goals
    go_loopw [8] (fun i wr => ∃ k : Nat, k ≤ m ∧ i = .int .i64 k ∧ Ob wr g t (pre ++ (arr 16 (raiseTo ks ns k) ++ post)) ∧ Only w wr g) (fun i _ => m - (intOf i).toNat)
    case atStart => exact ⟨0, Nat.zero_le _, rfl, by rw [raiseTo_zero]; exact HO.out, Only.refl _ _⟩
    case round =>
      obtain ⟨k, hk, rfl, hob, hon⟩ := hrel
      have HOB := Lib.hid hob
      have HON := Lib.hid hon
      clear hob hon
      by_cases hlt : k < m
      · have f1 : wr.cell? ⟨g, o + k, none⟩ = some (.int .u64 (uv (raiseTo ks ns k k))) := by rw [HP.out]; exact HOB.out.at_ k (by omega)
        have f2 : wr.frozen? ⟨g, o + k, none⟩ = false := HOB.out.frozen _
        have f3 : wr.cell? ⟨b, p + k, none⟩ = some (.int .u64 (uv (wordAt ns k))) := HON.out.cell (HC.out k (by omega)) hne
        go_wp2_with fail
        go_region
        go_wp2_with fail
        go_roundw
        case rel =>
          refine ⟨k + 1, by omega, by go_num, ?_, (HON.out.setCell rfl _).drew⟩
          have h := (HOB.out.put k (by omega) (raiseTo ks ns k k + wordAt ns k)).drew
          rw [← HP.out, raiseTo_succ] at h
          exact h
        case measure => simp [intOf]; omega
      · go_wp2_with fail
        go_end0
        refine ⟨rfl, ?_, HON.out⟩
        have e := arr_congr (n := 16) (fun j hj => raiseTo_end ks ns k j (by have := HM.out; have := HN.out; omega) hj)
        rw [← e]
        exact HOB.out

set_option maxHeartbeats 400000 in
theorem raise_none (g o c : Nat) (A : Option Addr) (w : World) :
    Calls Try.prog 9 #[.pointer (some ⟨g, o, none⟩), .slice A 0 c] w fun e w' => e = .returned (.tuple #[]) ∧ w = w' := by
  go_enter Try.func9, Try.ntmps9
  go_wp2
  all_goals
    refine wp_loop_rounds 1 ?_
    rw [rounds_succ]
    go_wp2
    go_end0
    exact ⟨rfl, rfl⟩

/-- Raise by any list that lies elsewhere -/
theorem raise_any (g o c n : Nat) (A : Option Addr) (t : TypeId) (pre post : List Value) (ks : Nat → BitVec 64) (ns : List (BitVec 64)) (hn : n = ns.length) (ho : o = pre.length) (w : World)
    (hob : Ob w g t (pre ++ (arr 16 ks ++ post))) (hs : Sl w A (words ns)) (hne : ∀ p, A = some p → p.block ≠ g) (hmax : n ≤ 4611686018427387904) :
    Calls Try.prog 9 #[.pointer (some ⟨g, o, none⟩), .slice A n c] w
      (Made w g t (.tuple #[]) (pre ++ (arr 16 (raise ks ns) ++ post))) := by
  by_cases hp : 0 < n
  · obtain ⟨b, p, rfl, hc⟩ := hs.words_at (by omega)
    exact raise_some g o b p c n (min n 16) t pre post ks ns hn rfl ho w hob (hne _ rfl) (fun j hj => hc j (by omega)) hmax
  · obtain rfl : n = 0 := by omega
    refine (raise_none g o c A w).mono ?_
    rintro e w' ⟨rfl, rfl⟩
    refine ⟨rfl, ?_, Only.refl _ _⟩
    have e := arr_congr (n := 16) (ks := raise ks ns) (ks' := ks) fun j _ => by rw [raise, wordAt_out ns j (by omega), BitVec.add_zero]
    rw [e]
    exact hob

set_option maxHeartbeats 400000 in
theorem numbers_true (us : List (BitVec 64)) (b o c b' o' c' n : Nat) (hn : n = us.length) (hmax : n ≤ 4611686018427387904) (w : World)
    (h1 : ∀ j, j < n → w.cell? ⟨b, o + j, none⟩ = some (.int .u64 (uv (wordAt us j)))) (h2 : ∀ j, j < n → w.cell? ⟨b', o' + j, none⟩ = some (.int .u64 (uv (wordAt us j)))) :
    Calls Try.prog 11 #[.slice (some ⟨b, o, none⟩) n c, .slice (some ⟨b', o', none⟩) n c'] w fun e w' => e = .returned (.bool true) ∧ ∃ d, w' = w.drewN d := by
  have H1 := Lib.hid h1
  have H2 := Lib.hid h2
  clear h1 h2 hn
  go_enter Try.func11, Try.ntmps11
  go_wp2_with fail
  go_loopw [5] (fun i wr => ∃ k d : Nat, k ≤ n ∧ i = .int .i64 k ∧ wr = w.drewN d) (fun i _ => n - (intOf i).toNat)
  case atStart => exact ⟨0, 0, Nat.zero_le _, rfl, rfl⟩
  case round =>
    obtain ⟨k, d, hk, rfl, rfl⟩ := hrel
    by_cases hlt : k < n
    · have f1 := H1.out k hlt
      have f2 := H2.out k hlt
      have g1 : (k : Int) < (n : Int) := by omega
      go_wp2_with fail
      go_quiet (fail)
      go_wp2_with fail
      go_roundw
      case rel => exact ⟨k + 1, d + nq, by omega, by go_num, rfl⟩
      case measure => simp [intOf]; omega
    · go_wp2_with fail
      go_ret
      exact ⟨rfl, d, rfl⟩

/-- a scratch, or nil: its block, its words, its counters -/
abbrev Item := Option (Nat × (Nat → BitVec 64) × (Nat → BitVec 64))
def ptrOf : Item → Value
  | none => .pointer none
  | some x => .pointer (some ⟨x.1, 0, none⟩)
def cntOf (j : Nat) : Item → BitVec 64
  | none => 0#64
  | some x => x.2.2 j
def tot (l : List Item) : Nat → BitVec 64 := fun j => l.foldl (fun a x => a + cntOf j x) 0#64
def ScrAt (w : World) (g : Nat) (ws ks : Nat → BitVec 64) : Prop := Ob w g 34 (arr 16 ws ++ (arr 16 ks ++ []))
def ItemAt (w : World) : Item → Prop
  | none => True
  | some x => ScrAt w x.1 x.2.1 x.2.2
theorem tot_snoc (l : List Item) (x : Item) : tot (l ++ [x]) = fun j => tot l j + cntOf j x := by
  funext j; simp [tot, List.foldl_append]
theorem tot_take (l : List Item) (k : Nat) (h : k < l.length) : tot (l.take (k + 1)) = fun j => tot (l.take k) j + cntOf j l[k] := by
  rw [List.take_succ_eq_append_getElem h, tot_snoc]

theorem u64_info : (Try.prog.info? 27).map (fun i => (i.zero, i.size, i.bytes)) = some (some (.int .u64 0), 1, 8) := by kernel_rfl

set_option maxRecDepth 100000 in
set_option maxHeartbeats 800000 in
theorem totals_some (items : List Item) (b o c n : Nat) (hn : n = items.length) (hmax : n ≤ 4611686018427387904) (w : World)
    (hs : ∀ j (h : j < items.length), w.cell? ⟨b, o + j, none⟩ = some (ptrOf items[j])) (hi : ∀ x ∈ items, ItemAt w x) :
    Calls Try.prog 10 #[.slice (some ⟨b, o, none⟩) n c] w fun e w' => ∃ v, e = .returned v ∧ w'.ownsRow w.heap.size 27 1 v 16 (arr 16 (tot items)) ∧ Below w.heap.size w w' := by
  obtain ⟨i0, hi0, hz0, hz1, hz2⟩ := info_parts u64_info
  have HS := Lib.hid hs
  have HI := Lib.hid hi
  have HN := Lib.hid hn
  clear hs hi hn
  go_enter Try.func10, Try.ntmps10
  go_wp2_with fail
  go_loopw [8] (fun i wr => ∃ k : Nat, k ≤ n ∧ i = .int .i64 k ∧ Ob wr w.heap.size 32 ([] ++ (arr 16 (tot (items.take k)) ++ [])) ∧ Below w.heap.size w wr) (fun i _ => n - (intOf i).toNat)
  case atStart => exact ⟨0, Nat.zero_le _, rfl, Ob.fresh w 32 ([] ++ (arr 16 (tot []) ++ [])), (Below.refl _ _).alloc (Nat.le_refl _) _⟩
  case round =>
    obtain ⟨k, hk, rfl, hob, hbl⟩ := hrel
    have HOB := Lib.hid hob
    have HBL := Lib.hid hbl
    clear hob hbl
    by_cases hlt : k < n
    · have hkl : k < items.length := by have := HN.out; omega
      have hc0 := HS.out k hkl
      have f1 : wr.cell? ⟨b, o + k, none⟩ = some (ptrOf items[k]) := by rw [HBL.out.cell (cell_lt hc0)]; exact hc0
      have hit := HI.out items[k] (List.getElem_mem hkl)
      have htk := tot_take items k hkl
      generalize items[k] = x at f1 hit htk
      clear hc0
      have g1 : (k : Int) < (n : Int) := by omega
      match x, hit with
      | none, _ =>
        have HT := Lib.hid htk
        clear htk
        have f2 : wr.cell? ⟨b, o + k, none⟩ = some (.pointer none) := f1
        clear f1
        go_wp2_with fail
        go_roundw
        case rel =>
          refine ⟨k + 1, by omega, by go_num, ?_, HBL.out⟩
          have e : arr 16 (tot (items.take (k + 1))) = arr 16 (tot (items.take k)) := by rw [HT.out]; exact arr_congr fun j _ => BitVec.add_zero _
          rw [e]; exact HOB.out
        case measure => simp [intOf]; omega
      | some y, hit =>
        have HT := Lib.hid htk
        have HY : Hid (ScrAt w y.1 y.2.1 y.2.2) := hit
        clear htk hit
        have f2 : wr.cell? ⟨b, o + k, none⟩ = some (.pointer (some ⟨y.1, 0, none⟩)) := f1
        have hyl : y.1 < w.heap.size := Ob.lt HY.out
        have HYR : Hid (Ob wr y.1 34 (arr 16 y.2.1 ++ (arr 16 y.2.2 ++ []))) := Ob.below HY.out HBL.out hyl
        clear f1
        go_wp2_with fail
        have hsl := HYR.out.arr_sl
        rw [arr_length, arr_words] at hsl
        refine (raise_any w.heap.size 0 16 16 _ 32 [] [] (tot (items.take k)) ((List.range 16).map y.2.2) (by simp) rfl wr HOB.out hsl (by intro p hp; injection hp with hp; subst hp; show y.1 ≠ _; omega) (by omega)).mono ?_
        rintro e w1 ⟨rfl, hob1, hon1⟩
        have HOB1 := Lib.hid hob1
        have HON1 := Lib.hid hon1
        clear hob1 hon1 hsl
        go_wp2_with fail
        go_roundw
        case rel =>
          refine ⟨k + 1, by omega, by go_num, ?_, Only.below HBL.out HON1.out HBL.out.size (Nat.le_refl _)⟩
          have e : arr 16 (tot (items.take (k + 1))) = arr 16 (raise (tot (items.take k)) ((List.range 16).map y.2.2)) := by
            rw [HT.out]
            refine arr_congr fun j hj => ?_
            rw [raise, wordAt_eq _ _ (by simpa using hj)]
            simp [cntOf]
          rw [e]; exact HOB1.out
        case measure => simp [intOf]; omega
    · obtain rfl : k = n := by omega
      have e8 : items.take k = items := by rw [HN.out, List.take_length]
      have hsl := HOB.out.arr_sl
      rw [e8] at hsl
      have HSL := Lib.hid hsl
      have HL : Hid ((arr 16 (tot items)).length = 16 * 1) := Lib.hid (arr_length _ _)
      clear hsl e8
      go_wp2_with
        (at_builtin
         refine wpList_append_in _ rfl _ (.tmp 22) _ rfl HBL.out 27 i0 _ 1 8 Try.underlying22 hi0 hz0 hz1 hz2 rfl (by omega) (.slice none 0 0) 0 [] rfl (World.ownsRow_nil _ _ _ _)
           (some ⟨w.heap.size, 0, none⟩) 16 16 (arr 16 (tot items)) rfl HL.out HSL.out (arr_one _ _) (by omega) (by omega) ?_
         intro v2 w2 hown hb2 g1 g2
         clear g1 g2)
      go_ret
      exact ⟨v2, rfl, hown, hb2⟩

end Go.Proofs.Ytkgiiahkednpmaa
