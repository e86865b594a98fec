/-
  Layer 17: Safe, Oldest, New. Conditions: those of each theorem.
-/
import Derived.Test.YtaclegafgkbmaaaEpochW
namespace Go.Proofs.Ytaclegafgkbmaaa
open Go.RowKit

/-- is no worker in an epoch less than e -/
def safeV (ins : List Int) (e : Int) : Bool := ins.all fun x => x == 0 || !(decide (x < e))
theorem safeV_take (ins : List Int) (e : Int) (k : Nat) (h : k < ins.length) : safeV (ins.take (k + 1)) e = (safeV (ins.take k) e && (ins.getD k 0 == 0 || !(decide (ins.getD k 0 < e)))) := by
  unfold safeV
  rw [List.take_succ_eq_append_getElem h, List.all_append, List.getD_eq_getElem?_getD, List.getElem?_eq_getElem h]
  simp
theorem safeV_cut (ins : List Int) (e : Int) (k : Nat) (h : safeV (ins.take k) e = false) : safeV ins e = false := by
  unfold safeV at h ⊢
  rw [← List.take_append_drop k ins, List.all_append, h]
  rfl

set_option maxRecDepth 100000 in
set_option maxHeartbeats 1000000 in
theorem safe_any (w : World) (g gi : Nat) (now : Int) (ins : List Int) (e : Int) (hm : ins.length ≤ 4) (hc : ClockAt w g gi now ins) :
    Calls Try.prog 14 #[.pointer (some ⟨g, 0, none⟩), .int .i64 e] w fun r w' => r = .returned (.bool (safeV ins e)) ∧ w = w' := by
  have HC := Lib.hid hc
  have f1 : w.cell? ⟨g, 1, none⟩ = some (.slice (some ⟨gi, 0, none⟩) ins.length ins.length) := hc.1.cell 1
  clear hc
  obtain ⟨n, hn⟩ : ∃ n, ins.length = n := ⟨_, rfl⟩
  rw [hn] at f1 hm
  have HN := Lib.hid hn
  obtain ⟨B, hB⟩ : ∃ B, safeV ins e = B := ⟨_, rfl⟩
  rw [hB]
  have HB := Lib.hid hB
  clear hn hB
  go_enter Try.func14, Try.ntmps14
  go_wp2_with fail
  go_loopw [12] (fun i wr => ∃ k : Nat, k ≤ n ∧ i = .int .i64 k ∧ w = wr ∧ safeV (ins.take k) e = true) (fun i _ => n - (intOf i).toNat)
  case atStart => exact ⟨0, Nat.zero_le _, rfl, rfl, rfl⟩
  case round =>
    obtain ⟨k, hk, rfl, rfl, hs⟩ := hrel
    have HS := Lib.hid hs
    clear hs
    by_cases hlt : k < n
    · have hkl : k < ins.length := by have := HN.out; omega
      have f2 := HC.out.at_ k hkl
      have HT := Lib.hid (safeV_take ins e k hkl)
      have HCUT := Lib.hid (safeV_cut ins e (k + 1))
      have g1 : (k : Int) < (n : Int) := by omega
      clear hkl
      generalize ins.getD k 0 = x at f2 HT
      by_cases hx : x = 0
      · subst hx
        have HT2 := Lib.hid (show safeV (ins.take (k + 1)) e = true by rw [HT.out, HS.out]; rfl)
        go_wp2_with fail
        refine ⟨⟨k + 1, by omega, by go_num, trivial, HT2.out⟩, by simp [intOf]; omega⟩
      · have hx' : (x == 0) = false := by simpa using hx
        have hx2 : (x != 0) = true := by simpa using hx
        by_cases hxe : x < e
        · have HT2 := Lib.hid (show B = false by rw [← HB.out]; exact HCUT.out (by rw [HT.out, HS.out, hx']; simp [hxe]))
          go_wp2_with fail
          go_ret
          exact ⟨by rw [HT2.out]; rfl, rfl⟩
        · have HT2 := Lib.hid (show safeV (ins.take (k + 1)) e = true by rw [HT.out, HS.out, hx']; simp; omega)
          go_wp2_with fail
          refine ⟨⟨k + 1, by omega, by go_num, trivial, HT2.out⟩, by simp [intOf]; omega⟩
    · have g1 : ¬ (k : Int) < (n : Int) := by omega
      have HT2 := Lib.hid (show B = true by rw [← HB.out, ← HS.out, show k = ins.length by have := HN.out; omega, List.take_length])
      go_wp2_with fail
      go_ret
      exact ⟨by rw [HT2.out]; rfl, rfl⟩

/-- the least epoch -/
def oldV (now : Int) (ins : List Int) : Int := ins.foldl (fun a x => if x = 0 then a else min a x) now
theorem oldV_take (now : Int) (ins : List Int) (k : Nat) (h : k < ins.length) : oldV now (ins.take (k + 1)) = if ins.getD k 0 = 0 then oldV now (ins.take k) else min (oldV now (ins.take k)) (ins.getD k 0) := by
  unfold oldV
  rw [List.take_succ_eq_append_getElem h, List.foldl_append, List.getD_eq_getElem?_getD, List.getElem?_eq_getElem h]
  rfl

set_option maxRecDepth 100000 in
set_option maxHeartbeats 1000000 in
theorem oldest_any (w : World) (g gi : Nat) (now : Int) (ins : List Int) (hm : ins.length ≤ 4) (hc : ClockAt w g gi now ins) :
    Calls Try.prog 15 #[.pointer (some ⟨g, 0, none⟩)] w fun r w' => r = .returned (.int .i64 (oldV now ins)) ∧ w = w' := by
  have HC := Lib.hid hc
  have f0 : w.cell? ⟨g, 0, none⟩ = some (.int .i64 now) := hc.1.cell 0
  have f1 : w.cell? ⟨g, 1, none⟩ = some (.slice (some ⟨gi, 0, none⟩) ins.length ins.length) := hc.1.cell 1
  clear hc
  obtain ⟨n, hn⟩ : ∃ n, ins.length = n := ⟨_, rfl⟩
  rw [hn] at f1 hm
  have HN := Lib.hid hn
  obtain ⟨B, hB⟩ : ∃ B, oldV now ins = B := ⟨_, rfl⟩
  rw [hB]
  have HB := Lib.hid hB
  clear hn hB
  go_enter Try.func15, Try.ntmps15
  go_wp2_with fail
  go_loopw [3, 15] (fun u i wr => ∃ (k : Nat) (z : Int), k ≤ n ∧ u = .int .i64 z ∧ i = .int .i64 k ∧ w = wr ∧ z = oldV now (ins.take k)) (fun _ i _ => n - (intOf i).toNat)
  case atStart => exact ⟨0, now, Nat.zero_le _, rfl, rfl, rfl, rfl⟩
  case round =>
    obtain ⟨k, z, hk, rfl, rfl, rfl, hs⟩ := hrel
    have HS := Lib.hid hs
    clear hs
    by_cases hlt : k < n
    · have hkl : k < ins.length := by have := HN.out; omega
      have f2 := HC.out.at_ k hkl
      have HT := Lib.hid (oldV_take now ins k hkl)
      have g1 : (k : Int) < (n : Int) := by omega
      clear hkl
      generalize ins.getD k 0 = x at f2 HT
      by_cases hx : x = 0
      · subst hx
        have HT2 := Lib.hid (show z = oldV now (ins.take (k + 1)) by rw [HT.out, if_pos rfl, HS.out])
        go_wp2_with fail
        refine ⟨⟨k + 1, z, by omega, rfl, by go_num, trivial, HT2.out⟩, by simp [intOf]; omega⟩
      · have hx2 : (x != 0) = true := by simpa using hx
        have HT2 := Lib.hid (show (if x < z then x else z) = oldV now (ins.take (k + 1)) by rw [HT.out, if_neg hx, ← HS.out, Int.min_def]; split <;> split <;> omega)
        go_wp2_with fail
        refine ⟨⟨k + 1, _, by omega, rfl, by go_num, trivial, HT2.out⟩, by simp [intOf]; omega⟩
    · have g1 : ¬ (k : Int) < (n : Int) := by omega
      have HT2 := Lib.hid (show z = B by rw [HS.out, ← HB.out, show k = ins.length by have := HN.out; omega, List.take_length])
      go_wp2_with fail
      go_ret
      exact ⟨by rw [← HT2.out]; rfl, rfl⟩

theorem makeN (w : World) : ∀ n : Nat, 1 ≤ n → n ≤ 4 → (Instr.makeSlice 28 (.int .i64 n) (.int .i64 n)).run Try.prog w = .ok (.slice (some ⟨w.heap.size, 0, none⟩) n n) (w.alloc (.cells (iarr (List.replicate n 0)).toArray 3))
  | 1, _, _ => by kernel_rfl
  | 2, _, _ => by kernel_rfl
  | 3, _, _ => by kernel_rfl
  | 4, _, _ => by kernel_rfl

set_option maxHeartbeats 800000 in
theorem new_bad (w : World) (n : Int) (hn : n < 1 ∨ 4 < n) :
    Calls Try.prog 8 #[.int .i64 n] w fun e w' => e = .returned (.tuple #[.pointer none, .int .i64 2]) ∧ w = w' := by
  rcases hn with h | h
  · go_enter Try.func8, Try.ntmps8
    go_wp2_with fail
    go_ret2
    exact ⟨rfl, rfl⟩
  · have h1 : ¬ n < 1 := by omega
    go_enter Try.func8, Try.ntmps8
    go_wp2_with fail
    go_ret2
    exact ⟨rfl, rfl⟩
set_option maxRecDepth 100000 in
set_option maxHeartbeats 800000 in
theorem new_ok (w : World) (n : Nat) (h1 : 1 ≤ n) (h4 : n ≤ 4) :
    Calls Try.prog 8 #[.int .i64 n] w fun e w' => ∃ g gi, e = .returned (.tuple #[.pointer (some ⟨g, 0, none⟩), .int .i64 0]) ∧ w.heap.size ≤ g ∧ w.heap.size ≤ gi ∧ ClockAt w' g gi 1 (List.replicate n 0) ∧ Below w.heap.size w w' := by
  have hmk := makeN w n h1 h4
  have HO := Lib.hid (Ob.fresh w 3 (iarr (List.replicate n 0)))
  have HB := Lib.hid (below_alloc (Below.refl w.heap.size w) (.cells (iarr (List.replicate n 0)).toArray 3))
  have hsz : (w.alloc (.cells (iarr (List.replicate n 0)).toArray 3)).heap.size = w.heap.size + 1 := by simp
  go_enter Try.func8, Try.ntmps8
  go_wp2_with fail
  go_ret2
  have hf := Ob.fresh (w.alloc (.cells (iarr (List.replicate n 0)).toArray 3)) 50 [.int .i64 1, .slice (some ⟨w.heap.size, 0, none⟩) n n]
  rw [hsz] at hf
  exact ⟨w.heap.size + 1, w.heap.size, rfl, by omega, Nat.le_refl _, ⟨by rw [List.length_replicate]; exact hf, HO.out.alloc _⟩, below_alloc HB.out _⟩

end Go.Proofs.Ytaclegafgkbmaaa
