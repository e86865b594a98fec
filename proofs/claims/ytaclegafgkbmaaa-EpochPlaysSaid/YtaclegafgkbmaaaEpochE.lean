/-
  The reference's clock asked: Safe, Oldest of tappetref17. Conditions: those of each theorem.
-/
import Derived.Test.YtaclegafgkbmaaaEpochD
namespace Go.Proofs.Ytaclegafgkbmaaa
open Go.RowKit

/-- who is in where, by the document's list -/
def insOf (l : List StepV) (N : Nat) : List Int := (List.range N).map fun (j : Nat) => inOf l (j : Int)
theorem insOf_length (l : List StepV) (N : Nat) : (insOf l N).length = N := by simp [insOf]
theorem insOf_get (l : List StepV) (N : Nat) (k : Nat) (h : k < N) : (insOf l N).getD k 0 = inOf l (k : Int) := by
  rw [List.getD_eq_getElem?_getD]; simp [insOf, h]
theorem inOf_pos (l : List StepV) (h : Int) : 0 ≤ inOf l h := (inPair_bound l h).1
theorem inOf_le (l : List StepV) (h : Int) : inOf l h ≤ nowOf l := (inPair_bound l h).2

set_option maxRecDepth 100000 in
set_option maxHeartbeats 1000000 in
theorem rsafe_any (B : Nat) (w : World) (g : Nat) (N : Nat) (v : Value) (l : List StepV) (e : Int) (hmax : l.length ≤ 100000) (hN : N ≤ 4) (hc : RClk B w g N v l) :
    Calls Try.prog 19 #[.pointer (some ⟨g, 0, none⟩), .int .i64 e] w fun r w' => r = .returned (.bool (safeV (insOf l N) e)) ∧ Below w.heap.size w w' := by
  have f0 : w.cell? ⟨g, 0, none⟩ = some (.int .i64 N) := hc.1.cell 0
  have hgl : g < w.heap.size := hc.1.lt
  have HC := Lib.hid hc
  have F0 := Lib.hid f0
  clear hc f0
  obtain ⟨X, hX⟩ : ∃ X, safeV (insOf l N) e = X := ⟨_, rfl⟩
  rw [hX]
  have HX := Lib.hid hX
  clear hX
  go_enter Try.func19, Try.ntmps19
  go_wp2_with fail
  go_loopw [5] (fun i wr => ∃ k : Nat, k ≤ N ∧ i = .int .i64 k ∧ Below w.heap.size w wr ∧ safeV ((insOf l N).take k) e = true) (fun i _ => N - (intOf i).toNat)
  case atStart => exact ⟨0, Nat.zero_le _, rfl, Below.refl _ _, rfl⟩
  case round =>
    obtain ⟨k, hk, rfl, hb, hs⟩ := hrel
    have HS := Lib.hid hs
    have BB := Lib.hid hb
    have f0 : wr.cell? ⟨g, 0, none⟩ = some (.int .i64 N) := (hb.cell hgl).trans F0.out
    clear hs hb
    by_cases hlt : k < N
    · have hkl : k < (insOf l N).length := by rw [insOf_length]; exact hlt
      have HT := Lib.hid (safeV_take (insOf l N) e k hkl)
      have HG := Lib.hid (insOf_get l N k hlt)
      have HCUT := Lib.hid (safeV_cut (insOf l N) e (k + 1))
      have HPOS := Lib.hid (inOf_pos l k)
      have g1 : (k : Int) < (N : Int) := by omega
      clear hkl
      go_wp2_with fail
      refine (rin_any _ _ g N v l k hmax (HC.out.below BB.out)).mono ?_
      rintro r w1 ⟨rfl, b1⟩
      have BX := Lib.hid (BB.out.trans (b1.mono BB.out.size))
      clear b1
      have HT1 := Lib.hid (show safeV ((insOf l N).take (k + 1)) e = (true && (inOf l k == 0 || !(decide (inOf l k < e)))) by rw [HT.out, HG.out, HS.out])
      have HP2 := Lib.hid HPOS.out
      clear HT HPOS HG
      generalize inOf l (k : Int) = x at HT1 HP2 ⊢
      by_cases hx : 0 < x
      · have hxd : decide (0 < x) = true := by simpa using hx
        have hx0 : (x == 0) = false := by simp; omega
        rw [hxd]
        by_cases hxe : x < e
        · have HT2 := Lib.hid (show X = false by rw [← HX.out]; exact HCUT.out (by rw [HT1.out, hx0]; simp [hxe]))
          go_wp2_with fail
          go_ret
          exact ⟨by rw [HT2.out]; rfl, BX.out⟩
        · have HT2 := Lib.hid (show safeV ((insOf l N).take (k + 1)) e = true by rw [HT1.out, hx0]; simp; omega)
          go_wp2_with fail
          refine ⟨⟨k + 1, by omega, by go_num, BX.out, HT2.out⟩, by simp [intOf]; omega⟩
      · have hxd : decide (0 < x) = false := by simpa using hx
        have hx0 : x = 0 := by have := HP2.out; omega
        have HT2 := Lib.hid (show safeV ((insOf l N).take (k + 1)) e = true by rw [HT1.out, hx0]; rfl)
        rw [hxd]
        go_wp2_with fail
        refine ⟨⟨k + 1, by omega, by go_num, BX.out, HT2.out⟩, by simp [intOf]; omega⟩
    · have g1 : ¬ (k : Int) < (N : Int) := by omega
      have HT2 := Lib.hid (show X = true by rw [← HX.out, ← HS.out, List.take_of_length_le (by rw [insOf_length]; omega)])
      go_wp2_with fail
      go_ret
      exact ⟨by rw [HT2.out]; rfl, BB.out⟩

set_option maxRecDepth 100000 in
set_option maxHeartbeats 1000000 in
theorem roldest_any (B : Nat) (w : World) (g : Nat) (N : Nat) (v : Value) (l : List StepV) (hmax : l.length ≤ 100000) (hN : N ≤ 4) (hc : RClk B w g N v l) :
    Calls Try.prog 24 #[.pointer (some ⟨g, 0, none⟩)] w fun r w' => r = .returned (.int .i64 (oldV (nowOf l) (insOf l N))) ∧ Below w.heap.size w w' := by
  have f0 : w.cell? ⟨g, 0, none⟩ = some (.int .i64 N) := hc.1.cell 0
  have hgl : g < w.heap.size := hc.1.lt
  have HC := Lib.hid hc
  have F0 := Lib.hid f0
  clear hc f0
  obtain ⟨X, hX⟩ : ∃ X, oldV (nowOf l) (insOf l N) = X := ⟨_, rfl⟩
  rw [hX]
  have HX := Lib.hid hX
  clear hX
  go_enter Try.func24, Try.ntmps24
  go_wp2_with fail
  refine (rnow_any _ _ g N v l hmax HC.out).mono ?_
  rintro r w1 ⟨rfl, rfl⟩
  go_wp2_with fail
  go_loopw [3, 4] (fun u i wr => ∃ (k : Nat) (z : Int), k ≤ N ∧ u = .int .i64 z ∧ i = .int .i64 k ∧ Below w.heap.size w wr ∧ z = oldV (nowOf l) ((insOf l N).take k)) (fun _ i _ => N - (intOf i).toNat)
  case atStart => exact ⟨0, nowOf l, Nat.zero_le _, rfl, rfl, Below.refl _ _, rfl⟩
  case round =>
    obtain ⟨k, z, hk, rfl, rfl, hb, hs⟩ := hrel
    have HS := Lib.hid hs
    have BB := Lib.hid hb
    have f0 : wr.cell? ⟨g, 0, none⟩ = some (.int .i64 N) := (hb.cell hgl).trans F0.out
    clear hs hb
    by_cases hlt : k < N
    · have hkl : k < (insOf l N).length := by rw [insOf_length]; exact hlt
      have HT := Lib.hid (oldV_take (nowOf l) (insOf l N) k hkl)
      have HG := Lib.hid (insOf_get l N k hlt)
      have HPOS := Lib.hid (inOf_pos l k)
      have g1 : (k : Int) < (N : Int) := by omega
      clear hkl
      go_wp2_with fail
      refine (rin_any _ _ g N v l k hmax (HC.out.below BB.out)).mono ?_
      rintro r w1 ⟨rfl, b1⟩
      have BX := Lib.hid (BB.out.trans (b1.mono BB.out.size))
      clear b1
      have HT1 := Lib.hid (show oldV (nowOf l) ((insOf l N).take (k + 1)) = (if inOf l k = 0 then z else min z (inOf l k)) by rw [HT.out, HG.out, HS.out])
      have HP2 := Lib.hid HPOS.out
      clear HT HPOS HG
      generalize inOf l (k : Int) = x at HT1 HP2 ⊢
      by_cases hx : 0 < x
      · have hxd : decide (0 < x) = true := by simpa using hx
        rw [hxd]
        by_cases hxe : x < z
        · have HT2 := Lib.hid (show x = oldV (nowOf l) ((insOf l N).take (k + 1)) by rw [HT1.out, if_neg (by omega), Int.min_def]; split <;> omega)
          go_wp2_with fail
          refine ⟨⟨k + 1, x, by omega, rfl, by go_num, BX.out, HT2.out⟩, by simp [intOf]; omega⟩
        · have HT2 := Lib.hid (show z = oldV (nowOf l) ((insOf l N).take (k + 1)) by rw [HT1.out, if_neg (by omega), Int.min_def]; split <;> omega)
          go_wp2_with fail
          refine ⟨⟨k + 1, z, by omega, rfl, by go_num, BX.out, HT2.out⟩, by simp [intOf]; omega⟩
      · have hxd : decide (0 < x) = false := by simpa using hx
        have hx0 : x = 0 := by have := HP2.out; omega
        have HT2 := Lib.hid (show z = oldV (nowOf l) ((insOf l N).take (k + 1)) by rw [HT1.out, if_pos hx0])
        rw [hxd]
        go_wp2_with fail
        refine ⟨⟨k + 1, z, by omega, rfl, by go_num, BX.out, HT2.out⟩, by simp [intOf]; omega⟩
    · have g1 : ¬ (k : Int) < (N : Int) := by omega
      have HT2 := Lib.hid (show z = X by rw [HS.out, ← HX.out, List.take_of_length_le (by rw [insOf_length]; omega)])
      go_wp2_with fail
      go_ret
      exact ⟨by rw [← HT2.out]; rfl, BB.out⟩

end Go.Proofs.Ytaclegafgkbmaaa
