/-
  The reference's Totals of layer 10. Conditions: those of each theorem.
-/
import Derived.Test.YtkgiiahkednpmaaScratchD
import Derived.Deep.DeepCutAuto
namespace Go.Proofs.Ytkgiiahkednpmaa
open Go.RowKit

attribute [local go_sem] uv_nonneg uv_wrap uv_add uv_sub uv_add1 uv_sub1

/-- a book, or nil -/
abbrev BItem := Option (Nat × Value × List AskV)
def bptr : BItem → Value
  | none => .pointer none
  | some x => .pointer (some ⟨x.1, 0, none⟩)
def bcnt (j : Nat) : BItem → BitVec 64
  | none => 0#64
  | some x => ksOf x.2.2 j
def btot (l : List BItem) : Nat → BitVec 64 := fun j => l.foldl (fun a x => a + bcnt j x) 0#64
theorem btot_snoc (l : List BItem) (x : BItem) : btot (l ++ [x]) = fun j => btot l j + bcnt j x := by
  funext j; simp [btot, List.foldl_append]
theorem btot_take (l : List BItem) (k : Nat) (h : k < l.length) : btot (l.take (k + 1)) = fun j => btot (l.take k) j + bcnt j l[k] := by
  rw [List.take_succ_eq_append_getElem h, btot_snoc]
def BItemAt (B : Nat) (w : World) : BItem → Prop
  | none => True
  | some x => BookAt B w x.1 x.2.1 x.2.2 ∧ x.2.2.length ≤ 4611686018427387904
theorem BookAt.below {B : Nat} {w w' : World} {g : Nat} {v : Value} {l : List AskV} (h : BookAt B w g v l) (hb : Below w.heap.size w w') : BookAt B w' g v l := h.tch (S := fun _ => False) (Tch.of_below hb) id fun _ _ => id

def upTo (F G : Nat → BitVec 64) (s : Nat) : Nat → BitVec 64 := fun j => if j < s then F j + G j else F j
theorem upTo_zero (F G : Nat → BitVec 64) : upTo F G 0 = F := by funext j; simp [upTo]
theorem upTo_succ (F G : Nat → BitVec 64) (s : Nat) : upd (upTo F G s) s (upTo F G s s + G s) = upTo F G (s + 1) := by
  funext j
  unfold upd upTo
  by_cases h : j = s
  · subst h; simp
  · rw [if_neg h]
    by_cases h2 : j < s
    · rw [if_pos h2, if_pos (by omega)]
    · rw [if_neg h2, if_neg (by omega)]
theorem upTo_end (F G : Nat → BitVec 64) : arr 16 (upTo F G 16) = arr 16 (fun j => F j + G j) := arr_congr fun j hj => by unfold upTo; rw [if_pos hj]

set_option maxRecDepth 100000 in
set_option maxHeartbeats 2000000 in
theorem btotals_some (items : List BItem) (B b o c n : Nat) (hn : n = items.length) (hmax : n ≤ 4611686018427387904) (w : World)
    (hs : ∀ j (h : j < items.length), w.cell? ⟨b, o + j, none⟩ = some (bptr items[j])) (hi : ∀ x ∈ items, BItemAt B w x) :
    Calls Try.prog 14 #[.slice (some ⟨b, o, none⟩) n c] w fun e w' => e = .returned (.slice (some ⟨w.heap.size, 0, none⟩) 16 16) ∧ Ob w' w.heap.size 27 ([] ++ (arr 16 (btot items) ++ [])) ∧ Below w.heap.size w w' := by
  have hmk := make16 w
  have HS := Lib.hid hs
  have HI := Lib.hid hi
  have HN := Lib.hid hn
  rw [List.append_nil] at hmk
  have HO0 : Hid (Ob (w.alloc (.cells (arr 16 zz).toArray 27)) w.heap.size 27 ([] ++ (arr 16 zz ++ []))) := Lib.hid (by simpa using Ob.fresh w 27 (arr 16 zz))
  have HB0 := Lib.hid (below_alloc (Below.refl w.heap.size w) (.cells (arr 16 zz).toArray 27))
  clear hs hi hn
  go_enter Try.func14, Try.ntmps14
  go_upto_region 2 with fail
  generalize w.alloc (.cells (arr 16 zz).toArray 27) = w1 at HO0 HB0 ⊢
  clear hmk
  generalize hq : w.heap.size = q at HO0 HB0 ⊢
  have HQ := Lib.hid hq
  clear hq
  go_wp2_with fail
  go_loopw [4] (fun i wr => ∃ k : Nat, k ≤ n ∧ i = .int .i64 k ∧ Ob wr q 27 ([] ++ (arr 16 (btot (items.take k)) ++ [])) ∧ Below q w wr) (fun i _ => n - (intOf i).toNat)
  case atStart => exact ⟨0, Nat.zero_le _, rfl, HO0.out, HB0.out⟩
  case round =>
    obtain ⟨k, hk, rfl, hob, hbl⟩ := hrel
    have HOB := Lib.hid hob
    have HBL := Lib.hid hbl
    clear hob hbl
    by_cases hlt : k < n
    · have hkl : k < items.length := by have := HN.out; omega
      have hc0 := HS.out k hkl
      have hit := HI.out items[k] (List.getElem_mem hkl)
      have htk := btot_take items k hkl
      have hbw : b < q := by
        have h : b < w.heap.size := cell_lt hc0
        rw [HQ.out] at h
        exact h
      generalize items[k] = x at hc0 hit htk
      have g1 : (k : Int) < (n : Int) := by omega
      match x, hit with
      | none, _ =>
        have HT := Lib.hid htk
        clear htk
        have f2 : wr.cell? ⟨b, o + k, none⟩ = some (.pointer none) := (HBL.out.cell hbw).trans hc0
        clear hc0
        go_wp2_with fail
        refine wp_loop_rounds 1 ?_
        rw [rounds_succ]
        go_wp2_with fail
        have hT2 := Lib.hid (show arr 16 (btot (items.take (k + 1))) = arr 16 (btot (items.take k)) by rw [HT.out]; exact arr_congr fun j _ => BitVec.add_zero _)
        refine ⟨⟨k + 1, by omega, by go_num, by rw [hT2.out]; exact HOB.out, HBL.out⟩, by simp [intOf]; omega⟩
      | some y, hit =>
        have HT := Lib.hid htk
        have HY := Lib.hid hit
        have f3 : w.cell? ⟨b, o + k, none⟩ = some (.pointer (some ⟨y.1, 0, none⟩)) := hc0
        clear htk hit hc0
        go_wp2_with fail
        go_loopw [5] (fun i wq => ∃ s : Nat, s ≤ 16 ∧ i = .int .i64 s ∧ Ob wq q 27 ([] ++ (arr 16 (upTo (btot (items.take k)) (ksOf y.2.2) s) ++ [])) ∧ Below q w wq) (fun i _ => 16 - (intOf i).toNat)
        case atStart => exact ⟨0, Nat.zero_le _, rfl, by rw [upTo_zero]; exact HOB.out, HBL.out⟩
        case round =>
          obtain ⟨s, hs, rfl, hob, hbl⟩ := hrel
          have HOB2 := Lib.hid hob
          have HBL2 := Lib.hid hbl
          clear hob hbl
          by_cases hlt4 : s < 16
          · have f2 : wr.cell? ⟨b, o + k, none⟩ = some (.pointer (some ⟨y.1, 0, none⟩)) := (HBL2.out.cell hbw).trans f3
            have g2 : (s : Int) < 16 := by omega
            have HY2 := Lib.hid (HY.out.1.below (by rw [HQ.out]; exact HBL2.out))
            have HLN := Lib.hid HY.out.2
            have HUS := Lib.hid (upTo_succ (btot (items.take k)) (ksOf y.2.2) s)
            generalize upTo (btot (items.take k)) (ksOf y.2.2) s = F at HOB2 HUS
            have a0 : wr.cell? ⟨q, s, none⟩ = some (.int .u64 (uv (F s))) := by have h := HOB2.out.at_ s hlt4; rw [List.length_nil, Nat.zero_add] at h; exact h
            have z0 : ∀ i, wr.frozen? ⟨q, i, none⟩ = false := HOB2.out.frozen
            clear f3
            go_wp2_with fail
            refine (bcount_any wr B y.1 y.2.1 y.2.2 (s : Int) HLN.out HY2.out).mono ?_
            rintro e w' ⟨rfl, rfl⟩
            rw [valAt_in _ hlt4, codeOf_nat hlt4]
            go_wp2_with fail
            refine ⟨⟨s + 1, by omega, by go_num, ?_, HBL2.out.setCell (by simp) _⟩, by simp [intOf]; omega⟩
            rw [← HUS.out]
            have h := Ob.put (pre := []) HOB2.out s hlt4 (F s + ksOf y.2.2 s)
            rw [List.length_nil, Nat.zero_add] at h
            exact h
          · obtain rfl : s = 16 := by omega
            have hT2 := Lib.hid (show arr 16 (btot (items.take (k + 1))) = arr 16 (upTo (btot (items.take k)) (ksOf y.2.2) 16) by rw [HT.out, upTo_end]; rfl)
            go_wp2_with fail
            refine ⟨⟨k + 1, by omega, by go_num, by rw [hT2.out]; exact HOB2.out, HBL2.out⟩, by simp [intOf]; omega⟩
    · go_wp2_with fail
      go_ret
      have e8 : items.take k = items := by rw [show k = items.length by have := HN.out; omega, List.take_length]
      exact ⟨by rw [HQ.out]; rfl, by rw [← e8, HQ.out]; exact HOB.out, by rw [HQ.out]; exact HBL.out⟩

theorem BItemAt.below {B : Nat} {w w' : World} {x : BItem} (h : BItemAt B w x) (hb : Below w.heap.size w w') : BItemAt B w' x := by
  cases x with
  | none => trivial
  | some y => exact ⟨BookAt.below h.1 hb, h.2⟩
theorem btotals_new (items : List BItem) (B : Nat) (w : World) (hi : ∀ x ∈ items, BItemAt B w x) (b : Nat) (hb : b = w.heap.size) (cs : Array Value) (hcs : cs = (items.map bptr).toArray) (n : Nat) (hn : n = items.length) (hmax : n ≤ 4611686018427387904) :
    Calls Try.prog 14 #[.slice (some ⟨b, 0, none⟩) n n] (w.alloc (.cells cs 45)) fun e w' =>
      ∃ g, e = .returned (.slice (some ⟨g, 0, none⟩) 16 16) ∧ Ob w' g 27 ([] ++ (arr 16 (btot items) ++ [])) ∧ Below w.heap.size w w' := by
  subst hb
  have hal : Below w.heap.size w (w.alloc (.cells cs 45)) := (Below.refl _ _).alloc (Nat.le_refl _) _
  refine (btotals_some items B w.heap.size 0 n n hn hmax _ (fun j hj => ?_) (fun x hx => (hi x hx).below hal)).mono ?_
  · subst hcs
    rw [Nat.zero_add, cell_of_row _ _ _ _ _ _ (heap_alloc_new w _)]
    simp [hj]
  · rintro e w' ⟨rfl, hob, hb⟩
    exact ⟨_, rfl, hob, hal.trans (hb.mono hal.size)⟩

end Go.Proofs.Ytkgiiahkednpmaa
