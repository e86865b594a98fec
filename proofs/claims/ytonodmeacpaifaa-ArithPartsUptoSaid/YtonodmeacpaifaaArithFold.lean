/-
  The walks of Fold and of the reference's Fold; awake. Conditions: none.
-/
import Derived.Test.YtonodmeacpaifaaArithWalks
import Derived.Test.YtonodmeacpaifaaSl
namespace Go.Proofs.Ytonodmeacpaifaa
open Go.RowKit

/-- do_any where the numbers are given as they stand -/
theorem do_at (op x y : Int) (a b : BitVec 64) (hx : x = uv a) (hy : y = uv b) (w : World) :
    Calls Try.prog 9 #[.int .i64 op, .int .u64 x, .int .u64 y] w fun e w' => e = .returned (.tuple #[.int .u64 (uv (AM.doV op a b)), .bool (AM.doOk op)]) ∧ w = w' := by
  subst hx hy
  exact do_any op a b w

theorem hd_at (op x y : Int) (a b : BitVec 64) (hx : x = uv a) (hy : y = uv b) (w : World) :
    Calls Try.prog 11 #[.int .i64 op, .int .u64 x, .int .u64 y] w fun e w' => e = .returned (.tuple #[.bool (AM.hdV op a b), .bool (AM.hdOk op)]) ∧ w = w' := by
  subst hx hy
  exact hd_any op a b w

set_option maxHeartbeats 400000 in
theorem fold_none (op : Int) (A : Option Addr) (c : Nat) (w : World) :
    Calls Try.prog 13 #[.int .i64 op, .slice A 0 c] w fun e w' => e = .returned (.tuple #[.int .u64 0, .bool false]) ∧ w = w' := by
  go_enter Try.func13, Try.ntmps13
  go_wp2_with fail
  refine (do_at op 0 0 0#64 0#64 rfl rfl w).mono ?_
  rintro e w' ⟨rfl, rfl⟩
  go_wp2_with fail
  all_goals go_ret2
  all_goals exact ⟨rfl, rfl⟩

theorem fold_step (op : Int) (u : BitVec 64) (r : List (BitVec 64)) (k : Nat) (h : k < r.length) :
    AM.doV op ((r.take k).foldl (AM.doV op) u) (wordAt r k) = (r.take (k + 1)).foldl (AM.doV op) u := by
  rw [List.take_succ_eq_append_getElem h, List.foldl_append]
  unfold wordAt
  rw [List.getD_eq_getElem?_getD, List.getElem?_eq_getElem h]
  rfl

set_option maxHeartbeats 400000 in
theorem fold_one (op : Int) (u : BitVec 64) (b o c : Nat) (w : World)
    (h0 : w.cell? ⟨b, o, none⟩ = some (.int .u64 (uv u))) :
    Calls Try.prog 13 #[.int .i64 op, .slice (some ⟨b, o, none⟩) 1 c] w fun e w' => e = .returned (.tuple #[.int .u64 (uv (AM.foldV op [u])), .bool (AM.doOk op)]) ∧ w = w' := by
  go_enter Try.func13, Try.ntmps13
  go_wp2_with fail
  refine (do_at op 0 0 0#64 0#64 rfl rfl w).mono ?_
  rintro e w' ⟨rfl, rfl⟩
  cases hok : AM.doOk op
  · go_wp2_with fail
    go_ret2
    exact ⟨ret_two (by simp [AM.foldV, hok]; rfl) hok.symm, rfl⟩
  · go_wp2_with fail
    all_goals
      refine wp_loop_rounds 1 ?_
      rw [rounds_succ]
      go_wp2_with fail
      go_ret2
      exact ⟨ret_two (by simp [AM.foldV, hok]) hok.symm, rfl⟩

set_option maxHeartbeats 400000 in
theorem fold_more (op : Int) (u : BitVec 64) (r : List (BitVec 64)) (b o c m : Nat) (hn : m = r.length) (hr : 0 < m) (hc : m + 1 ≤ c) (hm : m ≤ 4611686018427387904) (w : World)
    (h0 : w.cell? ⟨b, o, none⟩ = some (.int .u64 (uv u)))
    (h : ∀ j, j < m → w.cell? ⟨b, o + 1 + j, none⟩ = some (.int .u64 (uv (wordAt r j)))) :
    Calls Try.prog 13 #[.int .i64 op, .slice (some ⟨b, o, none⟩) (m + 1) c] w fun e w' => e = .returned (.tuple #[.int .u64 (uv (AM.foldV op (u :: r))), .bool (AM.doOk op)]) ∧ w = w' := by
  have H := Lib.hid h
  have HN := Lib.hid hn
  have f0 : ((m : Int) + 1 == 0) = false := by simp; omega
  clear h hn
  go_enter Try.func13, Try.ntmps13
  go_wp2_with fail
  refine (do_at op 0 0 0#64 0#64 rfl rfl w).mono ?_
  rintro e w' ⟨rfl, rfl⟩
  cases hok : AM.doOk op
  · go_wp2_with fail
    go_ret2
    exact ⟨ret_two (by simp [AM.foldV, hok]; rfl) hok.symm, rfl⟩
  · have HOK := Lib.hid hok
    go_wp2_with fail
    clear hok
    go_loop [8, 29] (fun s i => ∃ k : Nat, k ≤ m ∧ i = .int .i64 k ∧ s = .int .u64 (uv ((r.take k).foldl (AM.doV op) u))) (fun _ i => m - (intOf i).toNat)
    case atStart => exact ⟨0, Nat.zero_le _, rfl, rfl⟩
    case round =>
      obtain ⟨k, hk, rfl, rfl⟩ := hrel
      by_cases hlt : k < m
      · have hcell := H.out k hlt
        go_wp2_with fail
        refine (do_any op _ _ w).mono ?_
        rintro e w' ⟨rfl, rfl⟩
        go_wp2_with fail
        go_round
        case rel => exact ⟨k + 1, by omega, by go_num, by rw [fold_step _ _ _ _ (by have := HN.out; omega)]⟩
        case measure => simp [intOf]; omega
      · go_wp2_with fail
        go_ret2
        have e : k = r.length := by have := HN.out; omega
        exact ⟨ret_two (by rw [e, List.take_length]; simp [AM.foldV, HOK.out]) HOK.out.symm, rfl⟩

/-- Fold of any list -/
theorem fold_any (op : Int) (us : List (BitVec 64)) (A : Option Addr) (n c : Nat) (hn : n = us.length) (hc : n ≤ c) (hm : n ≤ 4611686018427387904) (w : World) (hs : Sl w A (words us)) :
    Calls Try.prog 13 #[.int .i64 op, .slice A n c] w fun e w' => e = .returned (.tuple #[.int .u64 (uv (AM.foldV op us)), .bool (AM.foldOk op us)]) ∧ w = w' := by
  subst hn
  match us, hs with
  | [], _ =>
    refine (fold_none op A c w).mono ?_
    rintro e w' ⟨rfl, rfl⟩
    exact ⟨ret_two rfl (by simp [AM.foldOk]), rfl⟩
  | u :: r, hs =>
    obtain ⟨b, o, rfl, hcell⟩ := hs.words_at (by simp)
    have h0 : w.cell? ⟨b, o, none⟩ = some (.int .u64 (uv u)) := hcell 0 (by simp)
    have hf : AM.foldOk op (u :: r) = AM.doOk op := by simp [AM.foldOk]
    rw [hf]
    by_cases hr : 0 < r.length
    · refine fold_more op u r b o c r.length rfl hr hc (by simp at hm; omega) w h0 fun j hj => ?_
      have := hcell (j + 1) (by simp; omega)
      rw [wordAt_cons_succ] at this
      rw [← this]
      congr 2
      omega
    · obtain rfl : r = [] := List.eq_nil_of_length_eq_zero (by omega)
      exact fold_one op u b o c w h0

theorem take_one_fold (op : Int) (us : List (BitVec 64)) (h : 0 < us.length) (hok : AM.doOk op = true) : AM.foldV op (us.take 1) = wordAt us 0 := by
  match us, h with
  | u :: r, _ => simp [AM.foldV, wordAt, hok]

theorem rfold_step (op : Int) (us : List (BitVec 64)) (k : Nat) (h1 : 1 ≤ k) (h : k < us.length) (hok : AM.doOk op = true) :
    AM.doV op (AM.foldV op (us.take k)) (wordAt us k) = AM.foldV op (us.take (k + 1)) := by
  match us, k, h1, h with
  | u :: r, k + 1, _, h =>
    simp only [List.take_succ_cons, AM.foldV, if_pos hok, wordAt_cons_succ]
    exact fold_step op u r k (by simpa using h)

set_option maxHeartbeats 400000 in
theorem rfold_out (op : Int) (h : AM.doOk op = false) (A : Option Addr) (n c : Nat) (w : World) :
    Calls Try.prog 14 #[.int .i64 op, .slice A n c] w fun e w' => e = .returned (.tuple #[.int .u64 0, .bool false]) ∧ w = w' := by
  have h' : ¬ (1 ≤ op ∧ op ≤ 10) := by unfold AM.doOk at h; simpa using h
  clear h
  by_cases h1 : op < 1
  · go_enter Try.func14, Try.ntmps14
    go_wp2
    go_ret2
    exact ⟨rfl, rfl⟩
  · have h2 : 10 < op := by omega
    have h3 : decide (op < 1) = false := by simp; omega
    clear h'
    go_enter Try.func14, Try.ntmps14
    go_wp2
    go_ret2
    exact ⟨rfl, rfl⟩

set_option maxHeartbeats 400000 in
theorem rfold_some (op : Int) (hok : AM.doOk op = true) (us : List (BitVec 64)) (b o c m : Nat) (hn : m + 1 = us.length) (hm : m ≤ 4611686018427387904) (w : World)
    (h : ∀ j, j < m + 1 → w.cell? ⟨b, o + j, none⟩ = some (.int .u64 (uv (wordAt us j)))) :
    Calls Try.prog 14 #[.int .i64 op, .slice (some ⟨b, o, none⟩) (m + 1) c] w fun e w' => e = .returned (.tuple #[.int .u64 (uv (AM.foldV op us)), .bool true]) ∧ w = w' := by
  have h' : 1 ≤ op ∧ op ≤ 10 := by unfold AM.doOk at hok; simpa using hok
  obtain ⟨h1, h2⟩ := h'
  have h3 : decide (op < 1) = false := by simp; omega
  have h4 : decide (10 < op) = false := by simp; omega
  have h0 : w.cell? ⟨b, o, none⟩ = some (.int .u64 (uv (wordAt us 0))) := h 0 (by omega)
  have f0 : ((m : Int) + 1 == 0) = false := by simp; omega
  have H := Lib.hid h
  have HN := Lib.hid hn
  have HO := Lib.hid hok
  clear h hn hok
  go_enter Try.func14, Try.ntmps14
  go_wp2_with fail
  go_loop [6, 7] (fun s i => ∃ k : Nat, 1 ≤ k ∧ k ≤ m + 1 ∧ i = .int .i64 k ∧ s = .int .u64 (uv (AM.foldV op (us.take k)))) (fun _ i => m + 1 - (intOf i).toNat)
  case atStart => exact ⟨1, by omega, by omega, rfl, by rw [take_one_fold _ _ (by have := HN.out; omega) HO.out]⟩
  case round =>
    obtain ⟨k, hk1, hk, rfl, rfl⟩ := hrel
    by_cases hlt : k < m + 1
    · have hcell := H.out k hlt
      go_wp2_with fail
      refine (rdo_any op _ _ w).mono ?_
      rintro e w' ⟨rfl, rfl⟩
      go_wp2_with fail
      go_round
      case rel => exact ⟨k + 1, by omega, by omega, by go_num, by rw [rfold_step _ _ _ hk1 (by have := HN.out; omega) HO.out]⟩
      case measure => simp [intOf]; omega
    · go_wp2_with fail
      go_ret2
      have e : k = us.length := by have := HN.out; omega
      exact ⟨ret_two (by rw [e, List.take_length]) rfl, rfl⟩

set_option maxHeartbeats 400000 in
theorem rfold_none (op : Int) (A : Option Addr) (c : Nat) (w : World) :
    Calls Try.prog 14 #[.int .i64 op, .slice A 0 c] w fun e w' => e = .returned (.tuple #[.int .u64 0, .bool false]) ∧ w = w' := by
  go_enter Try.func14, Try.ntmps14
  go_wp2
  all_goals (go_ret2; exact ⟨rfl, rfl⟩)

theorem foldV_out {op : Int} {us : List (BitVec 64)} (h : AM.doOk op = false) : AM.foldV op us = 0#64 := by
  cases us <;> simp [AM.foldV, h]

/-- the reference's Fold of any list -/
theorem rfold_any (op : Int) (us : List (BitVec 64)) (A : Option Addr) (n c : Nat) (hn : n = us.length) (hm : n ≤ 4611686018427387904) (w : World) (hs : Sl w A (words us)) :
    Calls Try.prog 14 #[.int .i64 op, .slice A n c] w fun e w' => e = .returned (.tuple #[.int .u64 (uv (AM.foldV op us)), .bool (AM.foldOk op us)]) ∧ w = w' := by
  subst hn
  cases hok : AM.doOk op
  · refine (rfold_out op hok A _ c w).mono ?_
    rintro e w' ⟨rfl, rfl⟩
    exact ⟨ret_two (by rw [foldV_out hok]; rfl) (by simp [AM.foldOk, hok]), rfl⟩
  · match us, hs with
    | [], _ =>
      refine (rfold_none op A c w).mono ?_
      rintro e w' ⟨rfl, rfl⟩
      exact ⟨ret_two rfl (by simp [AM.foldOk]), rfl⟩
    | u :: r, hs =>
      obtain ⟨b, o, rfl, hcell⟩ := hs.words_at (by simp)
      have hf : AM.foldOk op (u :: r) = true := by simp [AM.foldOk, hok]
      rw [hf]
      exact rfold_some op hok (u :: r) b o c r.length (by simp) (by simp at hm; omega) w fun j hj => hcell j (by simpa using hj)

end Go.Proofs.Ytonodmeacpaifaa
