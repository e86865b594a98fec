/-
  The reference's functions of layer 10 that ask, and those that note one thing: Word, Count, Store, Wipe, Mark. Conditions: those of each theorem.
-/
import Derived.Test.YtkgiiahkednpmaaScratchB
namespace Go.Proofs.Ytkgiiahkednpmaa
open Go.RowKit

attribute [local go_sem] uv_nonneg uv_wrap uv_add uv_sub uv_add1 uv_sub1

set_option maxRecDepth 100000 in
set_option maxHeartbeats 2000000 in
theorem bword_in (w : World) (g : Nat) (A : Option Addr) (n c : Nat) (l : List AskV) (j : Nat) (hj : j < 16) (hn : n = l.length) (hmax : n ≤ 4611686018427387904) (hob : Ob w g 48 [.slice A n c]) (hs : Sl w A (akvs l)) :
    Calls Try.prog 19 #[.pointer (some ⟨g, 0, none⟩), .int .i64 j] w fun e w' => e = .returned (.tuple #[.int .u64 (uv (wsOf l j)), .int .i64 0]) ∧ w = w' := by
  have HS := Lib.hid hs
  have HN := Lib.hid hn
  have hc : w.cell? ⟨g, 0, none⟩ = some (.slice A n c) := hob.cell 0
  obtain ⟨X, hX⟩ : ∃ X, wsOf l j = X := ⟨_, rfl⟩
  rw [hX]
  have HX := Lib.hid hX
  clear hs hn hob hX
  go_enter Try.func19, Try.ntmps19
  go_wp2_with fail
  go_loopw [6] (fun i wr => ∃ (q : Nat) (z : Int), q ≤ n ∧ z = (q : Int) - 1 ∧ i = .int .i64 z ∧ w = wr ∧ X = wsOf (l.take q) j) (fun i _ => (intOf i + 1).toNat)
  case atStart => exact ⟨n, (n : Int) - 1, Nat.le_refl _, rfl, rfl, rfl, by rw [HN.out, List.take_length, HX.out]⟩
  case round =>
    obtain ⟨q, z, hq, hz, rfl, rfl, hx⟩ := hrel
    have HXQ := Lib.hid hx
    clear hx
    by_cases hq0 : 0 < q
    · obtain ⟨p, rfl⟩ : ∃ p, q = p + 1 := ⟨q - 1, by omega⟩
      obtain rfl : z = (p : Int) := by omega
      clear hz
      have hpl : p < l.length := by have := HN.out; omega
      obtain ⟨b, o, rfl, hbl, hcc⟩ := asks_at HS.out (by omega)
      have f0 : w.cell? ⟨b, o + p * 3, none⟩ = some ((akv (l.getD p ask0)).getD 0 undef) := hcc p hpl 0 (by omega)
      have f1 := hcc p hpl 1 (by omega)
      have f2 := hcc p hpl 2 (by omega)
      have HT := Lib.hid (show X = wsStep (wsOf (l.take p)) (l.getD p ask0) j by rw [HXQ.out, take_snoc l p hpl, wsOf_snoc])
      clear hcc HXQ
      have g1 : (p : Int) < (n : Int) := by omega
      have g2 : (0 : Int) ≤ (p : Int) := by omega
      generalize l.getD p ask0 = t at f0 f1 f2 HT
      obtain ⟨kd, sl, x⟩ := t
      replace f0 : w.cell? ⟨b, o + p * 3, none⟩ = some (.int .i64 kd) := f0
      replace f1 : w.cell? ⟨b, o + p * 3 + 1, none⟩ = some (.int .i64 sl) := f1
      replace f2 : w.cell? ⟨b, o + p * 3 + 2, none⟩ = some (.int .u64 (uv x)) := f2
      by_cases h2 : kd = 2
      · subst h2
        have hX0 : X = 0#64 := by rw [HT.out]; simp [wsStep, zz]
        have HX0 := Lib.hid hX0
        clear hX0
        go_wp2_with fail
        go_ret2
        exact ⟨by rw [HX0.out]; rfl, rfl⟩
      · have h2' : (kd == 2) = false := by simpa using h2
        by_cases h1 : kd = 1
        · subst h1
          by_cases hs : sl = j
          · subst hs
            have hX0 : X = x := by rw [HT.out]; simp [wsStep, upd]
            have HX0 := Lib.hid hX0
            clear hX0
            go_wp2_with fail
            go_ret2
            exact ⟨by rw [HX0.out]; rfl, rfl⟩
          · have hs' : ((sl : Int) == (j : Int)) = false := by simp; omega
            have hX0 := Lib.hid (show X = wsOf (l.take p) j by rw [HT.out]; simp [wsStep, upd]; intro h; exact absurd h.symm hs)
            go_wp2_with fail
            refine ⟨⟨p, (p : Int) - 1, by omega, rfl, rfl, trivial, hX0.out⟩, by simp [intOf]⟩
        · have h1' : (kd == 1) = false := by simpa using h1
          have hX0 := Lib.hid (show X = wsOf (l.take p) j by rw [HT.out]; simp [wsStep, h1, h2])
          go_wp2_with fail
          refine ⟨⟨p, (p : Int) - 1, by omega, rfl, rfl, trivial, hX0.out⟩, by simp [intOf]⟩
    · obtain rfl : q = 0 := by omega
      have g3 : z < 0 := by omega
      clear hz
      have hX0 : X = 0#64 := by rw [HXQ.out]; rfl
      have HX0 := Lib.hid hX0
      clear hX0
      go_wp2_with fail
      go_ret2
      exact ⟨by rw [HX0.out]; rfl, rfl⟩

set_option maxRecDepth 100000 in
set_option maxHeartbeats 2000000 in
theorem bcount_in (w : World) (g : Nat) (A : Option Addr) (n c : Nat) (l : List AskV) (j : Nat) (hj : j < 16) (hn : n = l.length) (hmax : n ≤ 4611686018427387904) (hob : Ob w g 48 [.slice A n c]) (hs : Sl w A (akvs l)) :
    Calls Try.prog 23 #[.pointer (some ⟨g, 0, none⟩), .int .i64 j] w fun e w' => e = .returned (.tuple #[.int .u64 (uv (ksOf l j)), .int .i64 0]) ∧ w = w' := by
  have HS := Lib.hid hs
  have HN := Lib.hid hn
  have hc : w.cell? ⟨g, 0, none⟩ = some (.slice A n c) := hob.cell 0
  obtain ⟨X, hX⟩ : ∃ X, ksOf l j = X := ⟨_, rfl⟩
  rw [hX]
  have HX := Lib.hid hX
  clear hs hn hob hX
  go_enter Try.func23, Try.ntmps23
  go_wp2_with fail
  go_loopw [6, 7] (fun u i wr => ∃ (k : Nat) (s : BitVec 64), k ≤ n ∧ u = .int .u64 (uv s) ∧ i = .int .i64 k ∧ w = wr ∧ s = ksOf (l.take k) j) (fun _ i _ => n - (intOf i).toNat)
  case atStart => exact ⟨0, 0#64, Nat.zero_le _, rfl, rfl, rfl, rfl⟩
  case round =>
    obtain ⟨k, s, hk, rfl, rfl, rfl, hs⟩ := hrel
    have HSK := Lib.hid hs
    clear hs
    by_cases hlt : k < n
    · have hkl : k < l.length := by have := HN.out; omega
      obtain ⟨b, o, rfl, hbl, hcc⟩ := asks_at HS.out (by omega)
      have f0 : w.cell? ⟨b, o + k * 3, none⟩ = some ((akv (l.getD k ask0)).getD 0 undef) := hcc k hkl 0 (by omega)
      have f1 := hcc k hkl 1 (by omega)
      have f2 := hcc k hkl 2 (by omega)
      have HT := Lib.hid (show ksOf (l.take (k + 1)) j = ksStep (ksOf (l.take k)) (l.getD k ask0) j by rw [take_snoc l k hkl, ksOf_snoc])
      clear hcc
      have g1 : (k : Int) < (n : Int) := by omega
      generalize l.getD k ask0 = t at f0 f1 f2 HT
      obtain ⟨kd, sl, x⟩ := t
      replace f0 : w.cell? ⟨b, o + k * 3, none⟩ = some (.int .i64 kd) := f0
      replace f1 : w.cell? ⟨b, o + k * 3 + 1, none⟩ = some (.int .i64 sl) := f1
      replace f2 : w.cell? ⟨b, o + k * 3 + 2, none⟩ = some (.int .u64 (uv x)) := f2
      by_cases h1 : kd = 3
      · subst h1
        by_cases hs : sl = j
        · subst hs
          have hX0 := Lib.hid (show s + x = ksOf (l.take (k + 1)) sl by rw [HT.out, HSK.out]; simp [ksStep, upd])
          go_wp2_with fail
          refine ⟨⟨k + 1, s + x, by omega, rfl, by go_num, trivial, hX0.out⟩, by simp [intOf]; omega⟩
        · have hs' : ((sl : Int) == (j : Int)) = false := by simp; omega
          have hX0 := Lib.hid (show s = ksOf (l.take (k + 1)) j by rw [HT.out, HSK.out]; simp [ksStep, upd]; intro h; exact absurd h.symm hs)
          go_wp2_with fail
          refine ⟨⟨k + 1, s, by omega, rfl, by go_num, trivial, hX0.out⟩, by simp [intOf]; omega⟩
      · have h1' : (kd == 3) = false := by simpa using h1
        have hX0 := Lib.hid (show s = ksOf (l.take (k + 1)) j by rw [HT.out, HSK.out]; simp [ksStep, h1])
        go_wp2_with fail
        refine ⟨⟨k + 1, s, by omega, rfl, by go_num, trivial, hX0.out⟩, by simp [intOf]; omega⟩
    · have g1 : ¬ (k : Int) < (n : Int) := by omega
      have hkn : k = l.length := by have := HN.out; omega
      have hX0 : s = X := by rw [HSK.out, hkn, List.take_length, HX.out]
      subst hX0
      go_wp2_with fail
      go_ret2
      exact ⟨rfl, rfl⟩

set_option maxHeartbeats 800000 in
theorem bword_out (w : World) (p : Value) (h : Int) (hh : Out h) :
    Calls Try.prog 19 #[p, .int .i64 h] w fun e w' => e = .returned (.tuple #[.int .u64 0, .int .i64 35]) ∧ w = w' := by
  rcases hh with h0 | h0
  · go_enter Try.func19, Try.ntmps19
    go_wp2_with fail
    go_ret2
    exact ⟨rfl, rfl⟩
  · have h1 : ¬ h < 0 := by omega
    have h2 : 15 < h := by omega
    go_enter Try.func19, Try.ntmps19
    go_wp2_with fail
    go_ret2
    exact ⟨rfl, rfl⟩
set_option maxHeartbeats 800000 in
theorem bcount_out (w : World) (p : Value) (h : Int) (hh : Out h) :
    Calls Try.prog 23 #[p, .int .i64 h] w fun e w' => e = .returned (.tuple #[.int .u64 0, .int .i64 35]) ∧ w = w' := by
  rcases hh with h0 | h0
  · go_enter Try.func23, Try.ntmps23
    go_wp2_with fail
    go_ret2
    exact ⟨rfl, rfl⟩
  · have h1 : ¬ h < 0 := by omega
    have h2 : 15 < h := by omega
    go_enter Try.func23, Try.ntmps23
    go_wp2_with fail
    go_ret2
    exact ⟨rfl, rfl⟩

end Go.Proofs.Ytkgiiahkednpmaa
