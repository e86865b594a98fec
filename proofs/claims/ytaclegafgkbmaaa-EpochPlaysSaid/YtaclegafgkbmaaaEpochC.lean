/-
  In of tappetref17's clock. Conditions: those of each theorem.
-/
import Derived.Test.YtaclegafgkbmaaaEpochB
namespace Go.Proofs.Ytaclegafgkbmaaa
open Go.RowKit

theorem RClk.below {B : Nat} {w w' : World} {g : Nat} {N : Int} {v : Value} {l : List StepV} (h : RClk B w g N v l) (hb : Below w.heap.size w w') : RClk B w' g N v l := ⟨h.1.below hb h.1.lt, own_tch (S := fun _ => False) h.2 (Tch.of_below hb) fun _ _ => id⟩
theorem inPair_bound (l : List StepV) (w : Int) : 0 ≤ (inPair l w).2 ∧ (inPair l w).2 ≤ nowOf l := by
  refine snoc_ind (P := fun l => 0 ≤ (inPair l w).2 ∧ (inPair l w).2 ≤ nowOf l) ⟨by simp [inPair], by simp [inPair, nowOf]⟩ (fun l a ih => ?_) l
  show 0 ≤ (inPair (l ++ [a]) w).2 ∧ (inPair (l ++ [a]) w).2 ≤ nowOf (l ++ [a])
  have h1 := (nowOf_le l).2
  have h2 := inPair_fst l w
  rw [inPair_snoc, nowOf_snoc]
  unfold inStep nowStep
  split
  · exact ⟨ih.1, by show (inPair l w).2 ≤ _; omega⟩
  · split
    · split
      · exact ⟨by show 0 ≤ (inPair l w).1; omega, by show (inPair l w).1 ≤ _; omega⟩
      · exact ⟨Int.le_refl _, by show (0 : Int) ≤ _; omega⟩
    · exact ih

set_option maxRecDepth 100000 in
set_option maxHeartbeats 2000000 in
theorem rin_any (B : Nat) (w : World) (g : Nat) (N : Int) (v : Value) (l : List StepV) (h : Int) (hmax : l.length ≤ 100000) (hc : RClk B w g N v l) :
    Calls Try.prog 22 #[.pointer (some ⟨g, 0, none⟩), .int .i64 h] w fun e w' => e = .returned (.tuple #[.int .i64 (inOf l h), .bool (decide (0 < inOf l h))]) ∧ Below w.heap.size w w' := by
  obtain ⟨A, c, rfl, hs⟩ := hc.form
  have HS := Lib.hid hs
  have hcl : w.cell? ⟨g, 1, none⟩ = some (.slice A l.length c) := hc.1.cell 1
  have hgl : g < w.heap.size := hc.1.lt
  obtain ⟨n, hn⟩ : ∃ n, l.length = n := ⟨_, rfl⟩
  rw [hn] at hcl hmax
  have HN := Lib.hid hn
  have HCL := Lib.hid hcl
  obtain ⟨X, hX⟩ : ∃ X, inOf l h = X := ⟨_, rfl⟩
  rw [hX]
  have HX := Lib.hid hX
  clear hs hc hn hX hcl
  go_enter Try.func22, Try.ntmps22
  go_wp2_with fail
  go_loopw [6, 7, 8] (fun u a i wr => ∃ (k : Nat) (s t : Int), k ≤ n ∧ u = .int .i64 s ∧ a = .int .i64 t ∧ i = .int .i64 k ∧ Below w.heap.size w wr ∧ (s, t) = inPair (l.take k) h) (fun _ _ i _ => n - (intOf i).toNat)
  case atStart => exact ⟨0, 1, 0, Nat.zero_le _, rfl, rfl, rfl, Below.refl _ _, rfl⟩
  case round =>
    obtain ⟨k, s, t, hk, rfl, rfl, rfl, hb, hst⟩ := hrel
    have BB := Lib.hid hb
    have HST := Lib.hid hst
    have hcl : wr.cell? ⟨g, 1, none⟩ = some (.slice A n c) := (hb.cell hgl).trans HCL.out
    have hsb := nowOf_le (l.take k)
    have hlk : (l.take k).length ≤ n := by rw [List.length_take, HN.out]; omega
    have hs0 : s = nowOf (l.take k) := by rw [← inPair_fst (l.take k) h, ← hst]
    have hs1 : s ≤ 100001 := by omega
    have hs2 : 1 ≤ s := by omega
    clear hb hst hsb hlk hs0
    by_cases hlt : k < n
    · have hkl : k < l.length := by have := HN.out; omega
      obtain ⟨b, o, rfl, hbl, hcc⟩ := steps_at HS.out (by omega)
      have f0 : wr.cell? ⟨b, o + k * 2, none⟩ = some ((stv (l.getD k step0)).getD 0 undef) := (BB.out.cell hbl).trans (hcc k hkl 0 (by omega))
      have f1 : wr.cell? ⟨b, o + k * 2 + 1, none⟩ = some ((stv (l.getD k step0)).getD 1 undef) := (BB.out.cell hbl).trans (hcc k hkl 1 (by omega))
      have HT := Lib.hid (show inPair (l.take (k + 1)) h = inStep h (s, t) (l.getD k step0) by rw [step_take l k hkl, inPair_snoc, HST.out])
      clear hcc
      have g1 : (k : Int) < (n : Int) := by omega
      generalize l.getD k step0 = st at f0 f1 HT
      obtain ⟨kd, wk⟩ := st
      replace f0 : wr.cell? ⟨b, o + k * 2, none⟩ = some (.int .i64 kd) := f0
      replace f1 : wr.cell? ⟨b, o + k * 2 + 1, none⟩ = some (.int .i64 wk) := f1
      have OX : Hid (Ob (wr.alloc (.cells #[.int .i64 kd, .int .i64 wk] 53)) wr.heap.size 53 [.int .i64 kd, .int .i64 wk]) := Lib.hid (Ob.fresh wr 53 [.int .i64 kd, .int .i64 wk])
      have BX := Lib.hid (below_alloc BB.out (.cells #[.int .i64 kd, .int .i64 wk] 53))
      go_upto_region 6 with fail
      generalize wr.alloc (.cells #[.int .i64 kd, .int .i64 wk] 53) = wx at OX BX ⊢
      generalize wr.heap.size = q at OX ⊢
      clear f0 f1 hcl
      have e0 : wx.cell? ⟨q, 0, none⟩ = some (.int .i64 kd) := OX.out.cell 0
      have e1 : wx.cell? ⟨q, 1, none⟩ = some (.int .i64 wk) := OX.out.cell 1
      by_cases h3 : kd = 3
      · subst h3
        have HT2 := Lib.hid (show (s + 1, t) = inPair (l.take (k + 1)) h by rw [HT.out]; rfl)
        go_wp2_with fail
        refine ⟨⟨k + 1, s + 1, t, by omega, rfl, rfl, by go_num, BX.out, HT2.out⟩, by simp [intOf]; omega⟩
      · have h3' : (kd == 3) = false := by simpa using h3
        by_cases hw : wk = h
        · subst hw
          by_cases h1 : kd = 1
          · subst h1
            have HT2 := Lib.hid (show (s, s) = inPair (l.take (k + 1)) wk by rw [HT.out]; unfold inStep; rw [if_neg h3, if_pos rfl, if_pos rfl])
            go_wp2_with fail
            refine ⟨⟨k + 1, s, s, by omega, rfl, rfl, by go_num, BX.out, HT2.out⟩, by simp [intOf]; omega⟩
          · have h1' : (kd == 1) = false := by simpa using h1
            have HT2 := Lib.hid (show (s, 0) = inPair (l.take (k + 1)) wk by rw [HT.out]; unfold inStep; rw [if_neg h3, if_pos rfl, if_neg h1])
            go_wp2_with fail
            refine ⟨⟨k + 1, s, 0, by omega, rfl, rfl, by go_num, BX.out, HT2.out⟩, by simp [intOf]; omega⟩
        · have hw' : (wk == h) = false := by simpa using hw
          have HT2 := Lib.hid (show (s, t) = inPair (l.take (k + 1)) h by rw [HT.out]; unfold inStep; rw [if_neg h3, if_neg hw])
          go_wp2_with fail
          refine ⟨⟨k + 1, s, t, by omega, rfl, rfl, by go_num, BX.out, HT2.out⟩, by simp [intOf]; omega⟩
    · have g1 : ¬ (k : Int) < (n : Int) := by omega
      have HT2 := Lib.hid (show t = X by rw [← HX.out]; unfold inOf; rw [← List.take_of_length_le (l := l) (i := k) (by have := HN.out; omega), ← HST.out])
      go_wp2_with fail
      go_ret2
      exact ⟨by rw [← HT2.out]; rfl, BB.out⟩

end Go.Proofs.Ytaclegafgkbmaaa
