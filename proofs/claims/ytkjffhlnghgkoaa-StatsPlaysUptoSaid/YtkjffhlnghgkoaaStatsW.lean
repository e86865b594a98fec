/-
  The walks of the layer stats. Conditions: none.
-/
import Derived.Test.YtkjffhlnghgkoaaObj
import Derived.Test.YtkjffhlnghgkoaaRows
import Derived.Deep.QuietTactic
import Derived.BigQuiet
import Derived.BigRegion
import Derived.Deep.CutRange
import Derived.Deep.DeepCutAuto
namespace Go.Proofs.Ytkjffhlnghgkoaa
open Go.RowKit

attribute [local go_sem] uv_nonneg uv_wrap uv_add uv_sub uv_add1 uv_sub1

/-- a tally: its five numbers -/
abbrev Tly := Nat → BitVec 64
def z5 : Tly := fun _ => 0#64
def tAdd (f g : Tly) : Tly := fun j => f j + g j
def tSum (l : List Tly) : Tly := fun j => l.foldl (fun a f => a + f j) 0#64
def tVal (f : Tly) : Value := .agg #[.int .u64 (uv (f 0)), .int .u64 (uv (f 1)), .int .u64 (uv (f 2)), .int .u64 (uv (f 3)), .int .u64 (uv (f 4))]
theorem tSum_snoc (l : List Tly) (f : Tly) : tSum (l ++ [f]) = tAdd (tSum l) f := by funext j; simp [tSum, tAdd, List.foldl_append]
theorem tSum_take (l : List Tly) (k : Nat) (h : k < l.length) : tSum (l.take (k + 1)) = tAdd (tSum (l.take k)) (l.getD k z5) := by
  rw [List.take_succ_eq_append_getElem h, tSum_snoc, List.getD_eq_getElem?_getD, List.getElem?_eq_getElem h]; rfl

/-- the slice at b, o reads as these tallies -/
def TlysAt (w : World) (b o : Nat) (l : List Tly) : Prop := ∀ i, i < l.length → ∀ j, j < 5 → w.cell? ⟨b, o + i * 5 + j, none⟩ = some (.int .u64 (uv (l.getD i z5 j)))

set_option maxRecDepth 100000 in
set_option maxHeartbeats 800000 in
theorem add_some (l : List Tly) (b o c n : Nat) (hn : n = l.length) (hmax : n ≤ 461168601842738790) (w : World) (hs : TlysAt w b o l) (hb : b < w.heap.size) :
    Calls Try.prog 7 #[.slice (some ⟨b, o, none⟩) n c] w fun e w' => e = .returned (tVal (tSum l)) ∧ Below w.heap.size w w' := by
  have HS := Lib.hid hs
  have HN := Lib.hid hn
  clear hs hn
  go_enter Try.func7, Try.ntmps7
  go_wp2_with fail
  go_loopw [8] (fun i wr => ∃ k : Nat, k ≤ n ∧ i = .int .i64 k ∧ Ob wr (w.heap.size + 1) 26 ([] ++ (arr 5 (tSum (l.take k)) ++ [])) ∧ Ob wr w.heap.size 26 (arr 5 z5) ∧ Below w.heap.size w wr) (fun i _ => n - (intOf i).toNat)
  case atStart =>
    refine ⟨0, Nat.zero_le _, rfl, ?_, ?_, ?_⟩
    · have h := Ob.fresh (w.alloc (.cells (arr 5 z5).toArray 26)) 26 (arr 5 z5)
      have e : (w.alloc (.cells (arr 5 z5).toArray 26)).heap.size = w.heap.size + 1 := by simp
      rw [e] at h
      exact h
    · exact Ob.alloc (Ob.fresh w 26 (arr 5 z5)) _
    · exact below_alloc (below_alloc (Below.refl _ _) _) _
  case round =>
    obtain ⟨k, hk, rfl, hob, hor, hbl⟩ := hrel
    have HOB := Lib.hid hob
    have HOR := Lib.hid hor
    have HBL := Lib.hid hbl
    clear hob hor hbl
    by_cases hlt : k < n
    · have hcell : ∀ j, j < 5 → wr.cell? ⟨b, o + k * 5 + j, none⟩ = some (.int .u64 (uv (l.getD k z5 j))) := fun j hj => by
        rw [HBL.out.cell hb]; exact HS.out k (by have := HN.out; omega) j hj
      have f0 : wr.cell? ⟨b, o + k * 5, none⟩ = some (.int .u64 (uv (l.getD k z5 0))) := hcell 0 (by omega)
      have f1 := hcell 1 (by omega)
      have f2 := hcell 2 (by omega)
      have f3 := hcell 3 (by omega)
      have f4 := hcell 4 (by omega)
      have htk := tSum_take l k (by have := HN.out; omega)
      have HT := Lib.hid htk
      clear hcell htk
      have g1 : (k : Int) < (n : Int) := by omega
      generalize l.getD k z5 = f at f0 f1 f2 f3 f4 HT
      have hN : w.heap.size + 1 < wr.heap.size := HOB.out.lt
      generalize tSum (l.take k) = F at HOB HT
      have O1 := Lib.hid (HOB.out.alloc (.cells #[.int .u64 (uv (f 0)), .int .u64 (uv (f 1)), .int .u64 (uv (f 2)), .int .u64 (uv (f 3)), .int .u64 (uv (f 4))] 26))
      have R1 := Lib.hid (HOR.out.alloc (.cells #[.int .u64 (uv (f 0)), .int .u64 (uv (f 1)), .int .u64 (uv (f 2)), .int .u64 (uv (f 3)), .int .u64 (uv (f 4))] 26))
      have T1 : Hid (Ob (wr.alloc (.cells #[.int .u64 (uv (f 0)), .int .u64 (uv (f 1)), .int .u64 (uv (f 2)), .int .u64 (uv (f 3)), .int .u64 (uv (f 4))] 26)) wr.heap.size 26 (arr 5 f)) := Ob.fresh wr 26 (arr 5 f)
      have B1 := Lib.hid (below_alloc HBL.out (.cells #[.int .u64 (uv (f 0)), .int .u64 (uv (f 1)), .int .u64 (uv (f 2)), .int .u64 (uv (f 3)), .int .u64 (uv (f 4))] 26))
      go_upto_region 5 with fail
      generalize wr.alloc (.cells #[.int .u64 (uv (f 0)), .int .u64 (uv (f 1)), .int .u64 (uv (f 2)), .int .u64 (uv (f 3)), .int .u64 (uv (f 4))] 26) = w1 at O1 R1 T1 B1 ⊢
      generalize wr.heap.size = q at T1 hN ⊢
      clear f0 f1 f2 f3 f4
      have a0 := O1.out.at_ 0 (by omega)
      have a1 := O1.out.at_ 1 (by omega)
      have a2 := O1.out.at_ 2 (by omega)
      have a3 := O1.out.at_ 3 (by omega)
      have a4 := O1.out.at_ 4 (by omega)
      simp only [List.length_nil, Nat.zero_add] at a0 a1 a2 a3 a4
      have z0 : ∀ i, w1.frozen? ⟨w.heap.size + 1, i, none⟩ = false := O1.out.frozen
      have t0 : w1.cell? ⟨q, 0, none⟩ = some (.int .u64 (uv (f 0))) := T1.out.cell 0
      have t1 : w1.cell? ⟨q, 1, none⟩ = some (.int .u64 (uv (f 1))) := T1.out.cell 1
      have t2 : w1.cell? ⟨q, 2, none⟩ = some (.int .u64 (uv (f 2))) := T1.out.cell 2
      have t3 : w1.cell? ⟨q, 3, none⟩ = some (.int .u64 (uv (f 3))) := T1.out.cell 3
      have t4 : w1.cell? ⟨q, 4, none⟩ = some (.int .u64 (uv (f 4))) := T1.out.cell 4
      go_wp2_with fail
      go_roundw
      case rel =>
        refine ⟨k + 1, by omega, by go_num, ?_, ?_, ?_⟩
        · rw [HT.out]
          have h := ((((O1.out.put 0 (by omega) (F 0 + f 0)).put 1 (by omega) (F 1 + f 1)).put 2 (by omega) (F 2 + f 2)).put 3 (by omega) (F 3 + f 3)).put 4 (by omega) (F 4 + f 4)
          have e : arr 5 (upd (upd (upd (upd (upd F 0 (F 0 + f 0)) 1 (F 1 + f 1)) 2 (F 2 + f 2)) 3 (F 3 + f 3)) 4 (F 4 + f 4)) = arr 5 (tAdd F f) := rfl
          rw [e] at h
          exact h
        · exact ((((R1.out.far (by simp) _).far (by simp) _).far (by simp) _).far (by simp) _).far (by simp) _
        · exact ((((B1.out.setCell (by simp) _).setCell (by simp) _).setCell (by simp) _).setCell (by simp) _).setCell (by simp) _
      case measure => simp [intOf]; omega
    · have hkn : k = n := by omega
      have e8 : l.take k = l := by rw [hkn, HN.out, List.take_length]
      rw [e8] at HOB
      clear hkn e8
      have a0 := HOB.out.at_ 0 (by omega)
      have a1 := HOB.out.at_ 1 (by omega)
      have a2 := HOB.out.at_ 2 (by omega)
      have a3 := HOB.out.at_ 3 (by omega)
      have a4 := HOB.out.at_ 4 (by omega)
      simp only [List.length_nil, Nat.zero_add] at a0 a1 a2 a3 a4
      have z0 : ∀ i, wr.frozen? ⟨w.heap.size, i, none⟩ = false := HOR.out.frozen
      have r0 : wr.cell? ⟨w.heap.size, 0, none⟩ = some (.int .u64 0) := HOR.out.cell 0
      have r1 : wr.cell? ⟨w.heap.size, 1, none⟩ = some (.int .u64 0) := HOR.out.cell 1
      have r2 : wr.cell? ⟨w.heap.size, 2, none⟩ = some (.int .u64 0) := HOR.out.cell 2
      have r3 : wr.cell? ⟨w.heap.size, 3, none⟩ = some (.int .u64 0) := HOR.out.cell 3
      have r4 : wr.cell? ⟨w.heap.size, 4, none⟩ = some (.int .u64 0) := HOR.out.cell 4
      go_wp2_with fail
      have hw : Below w.heap.size w (((((wr.setCell ⟨w.heap.size, 0, none⟩ (.int .u64 (uv (tSum l 0)))).setCell ⟨w.heap.size, 1, none⟩ (.int .u64 (uv (tSum l 1)))).setCell ⟨w.heap.size, 2, none⟩ (.int .u64 (uv (tSum l 2)))).setCell ⟨w.heap.size, 3, none⟩ (.int .u64 (uv (tSum l 3)))).setCell ⟨w.heap.size, 4, none⟩ (.int .u64 (uv (tSum l 4)))) :=
        ((((HBL.out.setCell (by simp) _).setCell (by simp) _).setCell (by simp) _).setCell (by simp) _).setCell (by simp) _
      have ho : Ob (((((wr.setCell ⟨w.heap.size, 0, none⟩ (.int .u64 (uv (tSum l 0)))).setCell ⟨w.heap.size, 1, none⟩ (.int .u64 (uv (tSum l 1)))).setCell ⟨w.heap.size, 2, none⟩ (.int .u64 (uv (tSum l 2)))).setCell ⟨w.heap.size, 3, none⟩ (.int .u64 (uv (tSum l 3)))).setCell ⟨w.heap.size, 4, none⟩ (.int .u64 (uv (tSum l 4)))) w.heap.size 26 (arr 5 (tSum l)) :=
        ((((HOR.out.set_ 0 _).set_ 1 _).set_ 2 _).set_ 3 _).set_ 4 _
      generalize ((((wr.setCell ⟨w.heap.size, 0, none⟩ (.int .u64 (uv (tSum l 0)))).setCell ⟨w.heap.size, 1, none⟩ (.int .u64 (uv (tSum l 1)))).setCell ⟨w.heap.size, 2, none⟩ (.int .u64 (uv (tSum l 2)))).setCell ⟨w.heap.size, 3, none⟩ (.int .u64 (uv (tSum l 3)))).setCell ⟨w.heap.size, 4, none⟩ (.int .u64 (uv (tSum l 4))) = w2 at hw ho ⊢
      have s0 : w2.cell? ⟨w.heap.size, 0, none⟩ = some (.int .u64 (uv (tSum l 0))) := ho.cell 0
      have s1 : w2.cell? ⟨w.heap.size, 1, none⟩ = some (.int .u64 (uv (tSum l 1))) := ho.cell 1
      have s2 : w2.cell? ⟨w.heap.size, 2, none⟩ = some (.int .u64 (uv (tSum l 2))) := ho.cell 2
      have s3 : w2.cell? ⟨w.heap.size, 3, none⟩ = some (.int .u64 (uv (tSum l 3))) := ho.cell 3
      have s4 : w2.cell? ⟨w.heap.size, 4, none⟩ = some (.int .u64 (uv (tSum l 4))) := ho.cell 4
      exact bodyPost_ret (v := tVal (tSum l)) (by simp [results, Try.results7, go_sem, tVal, s0, s1, s2, s3, s4]) rfl ⟨rfl, hw⟩

set_option maxHeartbeats 800000 in
theorem add_none (A : Option Addr) (c : Nat) (w : World) :
    Calls Try.prog 7 #[.slice A 0 c] w fun e w' => e = .returned (tVal z5) ∧ Below w.heap.size w w' := by
  go_enter Try.func7, Try.ntmps7
  go_wp2_with fail
  refine wp_loop_rounds 1 ?_
  rw [rounds_succ]
  go_wp2_with fail
  have hw : Below w.heap.size w ((w.alloc (.cells #[.int .u64 0, .int .u64 0, .int .u64 0, .int .u64 0, .int .u64 0] 26)).alloc (.cells #[.int .u64 0, .int .u64 0, .int .u64 0, .int .u64 0, .int .u64 0] 26)) := below_alloc (below_alloc (Below.refl _ _) _) _
  have ho : Ob ((w.alloc (.cells #[.int .u64 0, .int .u64 0, .int .u64 0, .int .u64 0, .int .u64 0] 26)).alloc (.cells #[.int .u64 0, .int .u64 0, .int .u64 0, .int .u64 0, .int .u64 0] 26)) w.heap.size 26 (arr 5 z5) := Ob.alloc (Ob.fresh w 26 (arr 5 z5)) _
  generalize (w.alloc (.cells #[.int .u64 0, .int .u64 0, .int .u64 0, .int .u64 0, .int .u64 0] 26)).alloc (.cells #[.int .u64 0, .int .u64 0, .int .u64 0, .int .u64 0, .int .u64 0] 26) = w2 at hw ho ⊢
  have s0 : w2.cell? ⟨w.heap.size, 0, none⟩ = some (.int .u64 (uv (z5 0))) := ho.cell 0
  have s1 : w2.cell? ⟨w.heap.size, 1, none⟩ = some (.int .u64 (uv (z5 1))) := ho.cell 1
  have s2 : w2.cell? ⟨w.heap.size, 2, none⟩ = some (.int .u64 (uv (z5 2))) := ho.cell 2
  have s3 : w2.cell? ⟨w.heap.size, 3, none⟩ = some (.int .u64 (uv (z5 3))) := ho.cell 3
  have s4 : w2.cell? ⟨w.heap.size, 4, none⟩ = some (.int .u64 (uv (z5 4))) := ho.cell 4
  exact bodyPost_ret (v := tVal z5) (by simp [results, Try.results7, go_sem, tVal, s0, s1, s2, s3, s4]) rfl ⟨rfl, hw⟩

set_option maxHeartbeats 800000 in
theorem tallies_true (l : List Tly) (b o c b' o' c' n : Nat) (hn : n = l.length) (hmax : n ≤ 461168601842738790) (w : World) (h1 : TlysAt w b o l) (h2 : TlysAt w b' o' l) :
    Calls Try.prog 8 #[.slice (some ⟨b, o, none⟩) n c, .slice (some ⟨b', o', none⟩) n c'] w fun e w' => e = .returned (.bool true) ∧ ∃ d, w' = w.drewN d := by
  have H1 := Lib.hid h1
  have H2 := Lib.hid h2
  have HN := Lib.hid hn
  clear h1 h2 hn
  go_enter Try.func8, Try.ntmps8
  go_wp2_with fail
  go_loopw [5] (fun i wr => ∃ k d : Nat, k ≤ n ∧ i = .int .i64 k ∧ wr = w.drewN d) (fun i _ => n - (intOf i).toNat)
  case atStart => exact ⟨0, 0, Nat.zero_le _, rfl, rfl⟩
  case round =>
    obtain ⟨k, d, hk, rfl, rfl⟩ := hrel
    by_cases hlt : k < n
    · have hkl : k < l.length := by have := HN.out; omega
      have f0 : w.cell? ⟨b, o + k * 5, none⟩ = some (.int .u64 (uv (l.getD k z5 0))) := H1.out k hkl 0 (by omega)
      have f1 := H1.out k hkl 1 (by omega)
      have f2 := H1.out k hkl 2 (by omega)
      have f3 := H1.out k hkl 3 (by omega)
      have f4 := H1.out k hkl 4 (by omega)
      have e0 : w.cell? ⟨b', o' + k * 5, none⟩ = some (.int .u64 (uv (l.getD k z5 0))) := H2.out k hkl 0 (by omega)
      have e1 := H2.out k hkl 1 (by omega)
      have e2 := H2.out k hkl 2 (by omega)
      have e3 := H2.out k hkl 3 (by omega)
      have e4 := H2.out k hkl 4 (by omega)
      generalize l.getD k z5 = f at f0 f1 f2 f3 f4 e0 e1 e2 e3 e4
      have g1 : (k : Int) < (n : Int) := by omega
      go_wp2_with fail
      go_quiet (fail)
      go_wp2_with fail
      go_roundw
      case rel => exact ⟨k + 1, d + nq, by omega, by go_num, rfl⟩
      case measure => simp [intOf]; omega
    · go_wp2_with fail
      go_ret
      exact ⟨rfl, d, rfl⟩

end Go.Proofs.Ytkjffhlnghgkoaa
