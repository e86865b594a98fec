/-
  The walks of the layer arith that the layer span reaches: each function of the program and of the reference, at every argument. Conditions: none.
-/
import Derived.Test.YtchlokhmcadgaaaBv
import Derived.Test.YtchlokhmcadgaaaArithMath
import Derived.Test.YtchlokhmcadgaaaRows
namespace Go.Proofs.Ytchlokhmcadgaaa
open Go.RowKit

attribute [local go_sem] uv_nonneg uv_wrap uv_add uv_sub uv_mul uv_add1 uv_sub1 uv_and uv_or uv_xor uv_andNot uv_and1 uv_not uv_notMax u64_signed uv_shr uv_shr1 uv_shl uv_shr63 uv_shl1 uv_1shl uv_tdiv uv_tdiv2 uv_tmod uv_shlMin uv_shrMin uv_div uv_mod

set_option maxHeartbeats 400000 in
theorem plus_any (a b : BitVec 64) (w : World) :
    Calls Try.prog 42 #[.int .u64 (uv a), .int .u64 (uv b)] w fun e w' => e = .returned (.int .u64 (uv (a + b))) ∧ w = w' := by
  go_enter Try.func42, Try.ntmps42
  go_wp2
  go_loop [5, 6, 7] (fun s c i => ∃ k : Nat, k ≤ 64 ∧ i = .int .i64 k ∧ ∃ S C : BitVec 64, s = .int .u64 (uv S) ∧ c = .int .u64 (uv C) ∧ AM.PlusAt a b k S C) (fun _ _ i => 64 - (intOf i).toNat)
  case atStart => exact ⟨0, Nat.zero_le _, rfl, 0#64, 0#64, rfl, rfl, AM.plus_start a b⟩
  case round =>
    obtain ⟨k, hk, rfl, S, C, rfl, rfl, hp⟩ := hrel
    have HP := Lib.hid hp
    clear hp
    by_cases hlt : k < 64
    · go_wp2
      go_round
      case rel => exact ⟨k + 1, by omega, by go_num, _, _, rfl, rfl, AM.plus_step hlt HP.out⟩
      case measure => simp [intOf]; omega
    · go_wp2
      go_ret
      have e : k = 64 := by omega
      subst e
      exact ⟨ret_int (by rw [AM.plus_end HP.out]), rfl⟩

theorem plus_one (a : BitVec 64) (w : World) :
    Calls Try.prog 42 #[.int .u64 (uv a), .int .u64 1] w fun e w' => e = .returned (.int .u64 (uv (a + 1#64))) ∧ w = w' := by
  have h := plus_any a 1#64 w
  rw [uv_one] at h
  exact h

set_option maxHeartbeats 400000 in
theorem minus_any (a b : BitVec 64) (w : World) :
    Calls Try.prog 43 #[.int .u64 (uv a), .int .u64 (uv b)] w fun e w' => e = .returned (.int .u64 (uv (a - b))) ∧ w = w' := by
  go_enter Try.func43, Try.ntmps43
  go_wp2_with fail
  refine (plus_one (~~~b) w).mono ?_
  rintro e w' ⟨rfl, rfl⟩
  go_wp2_with fail
  refine (plus_any a (~~~b + 1#64) w).mono ?_
  rintro e w' ⟨rfl, rfl⟩
  go_wp2_with fail
  go_ret
  exact ⟨ret_int (by rw [AM.minus_eq]), rfl⟩

set_option maxHeartbeats 400000 in
theorem times_any (a b : BitVec 64) (w : World) :
    Calls Try.prog 44 #[.int .u64 (uv a), .int .u64 (uv b)] w fun e w' => e = .returned (.int .u64 (uv (a * b))) ∧ w = w' := by
  go_enter Try.func44, Try.ntmps44
  go_wp2
  go_loop [0, 5, 6] (fun d s i => ∃ k : Nat, k ≤ 64 ∧ i = .int .i64 k ∧ ∃ S D : BitVec 64, s = .int .u64 (uv S) ∧ d = .int .u64 (uv D) ∧ AM.TimesAt a b k S D) (fun _ _ i => 64 - (intOf i).toNat)
  case atStart => exact ⟨0, Nat.zero_le _, rfl, 0#64, a, rfl, rfl, AM.times_start a b⟩
  case round =>
    obtain ⟨k, hk, rfl, S, D, rfl, rfl, hp⟩ := hrel
    have HP := Lib.hid hp
    clear hp
    by_cases hlt : k < 64
    · go_wp2_with fail
      · have hb := uv_beq_one (by assumption)
        refine (plus_any S D w).mono ?_
        rintro e w' ⟨rfl, rfl⟩
        go_wp2_with fail
        refine (plus_any D D w).mono ?_
        rintro e w' ⟨rfl, rfl⟩
        have HB := Lib.hid hb
        clear hb
        go_wp2_with fail
        go_round
        case rel => exact ⟨k + 1, by omega, by go_num, S + D, _, rfl, rfl, by have h := AM.times_step HP.out; rw [if_pos HB.out] at h; exact h⟩
        case measure => simp [intOf]; omega
      · have hb := uv_bne_one (by assumption)
        refine (plus_any D D w).mono ?_
        rintro e w' ⟨rfl, rfl⟩
        have HB := Lib.hid hb
        clear hb
        go_wp2_with fail
        go_round
        case rel => exact ⟨k + 1, by omega, by go_num, S, _, rfl, rfl, by have h := AM.times_step HP.out; rw [if_neg HB.out] at h; exact h⟩
        case measure => simp [intOf]; omega
    · go_wp2
      go_ret
      have e : k = 64 := by omega
      subst e
      exact ⟨ret_int (by rw [AM.times_end HP.out]), rfl⟩

set_option maxHeartbeats 400000 in
theorem split_any (a b : BitVec 64) (hb : 0 < b.toNat) (w : World) :
    Calls Try.prog 45 #[.int .u64 (uv a), .int .u64 (uv b)] w fun e w' => e = .returned (.tuple #[.int .u64 (uv (a / b)), .int .u64 (uv (a % b))]) ∧ w = w' := by
  go_enter Try.func45, Try.ntmps45
  go_wp2
  go_loop [6, 7, 8] (fun q r i => ∃ (k : Nat) (n : Int), k ≤ 64 ∧ n = (k : Int) - 1 ∧ i = .int .i64 n ∧ ∃ Q R : BitVec 64, q = .int .u64 (uv Q) ∧ r = .int .u64 (uv R) ∧ AM.SplitAt a b k Q R) (fun _ _ i => (intOf i + 1).toNat)
  case atStart => exact ⟨64, 63, Nat.le_refl _, rfl, rfl, 0#64, 0#64, rfl, rfl, AM.split_start a b⟩
  case round =>
    obtain ⟨k, n, hk, hn, rfl, Q, R, rfl, rfl, hp⟩ := hrel
    have HP := Lib.hid hp
    clear hp
    by_cases hlt : 0 < k
    · obtain ⟨j, rfl⟩ : ∃ j, k = j + 1 := ⟨k - 1, by omega⟩
      obtain rfl : n = (j : Int) := by omega
      clear hn
      have HR := Lib.hid (AM.split_inv_lt hb HP.out)
      have HB := Lib.hid hb
      clear hb
      by_cases h1 : R >>> 63 = 1#64
      · have hT := Lib.hid ((AM.takes_iff a b R j HR.out).2 (.inl h1))
        have f1 := uv_beq1 h1
        clear h1
        go_wp2_with fail
        refine (minus_any _ b w).mono ?_
        rintro e w' ⟨rfl, rfl⟩
        go_wp2_with fail
        go_round
        case rel => exact ⟨j, (j : Int) - 1, by omega, rfl, rfl, _, _, rfl, rfl, AM.split_step_yes (by omega) HB.out HP.out hT.out⟩
        case measure => simp [intOf]
      · by_cases h2 : b.toNat ≤ ((R <<< 1) ||| ((a >>> j) &&& 1#64)).toNat
        · have hT := Lib.hid ((AM.takes_iff a b R j HR.out).2 (.inr h2))
          have f1 := uv_nbeq1 h1
          have f2 := uv_dec_le h2
          clear h1 h2
          go_wp2_with fail
          refine (minus_any _ b w).mono ?_
          rintro e w' ⟨rfl, rfl⟩
          go_wp2_with fail
          go_round
          case rel => exact ⟨j, (j : Int) - 1, by omega, rfl, rfl, _, _, rfl, rfl, AM.split_step_yes (by omega) HB.out HP.out hT.out⟩
          case measure => simp [intOf]
        · have hT := Lib.hid (fun h => ((AM.takes_iff a b R j HR.out).1 h).elim h1 h2)
          have f1 := uv_nbeq1 h1
          have f2 := uv_dec_nle h2
          clear h1 h2
          go_wp2_with fail
          go_round
          case rel => exact ⟨j, (j : Int) - 1, by omega, rfl, rfl, _, _, rfl, rfl, AM.split_step_no HB.out HP.out hT.out⟩
          case measure => simp [intOf]
    · obtain rfl : k = 0 := by omega
      obtain rfl : n = -1 := by omega
      clear hn hlt
      go_wp2
      have he := AM.split_end HP.out
      go_ret2
      exact ⟨by rw [he.1, he.2]; rfl, rfl⟩

theorem ne_of_out {op : Int} {k : Int} (h : op < 1 ∨ 10 < op) (h1 : 1 ≤ k) (h2 : k ≤ 10) : (op == k) = false := by simp; omega

theorem ret_two {a b : Int} {c d : Bool} (h : a = b) (h' : c = d) : Ending.returned (.tuple #[.int .u64 a, .bool c]) = .returned (.tuple #[.int .u64 b, .bool d]) := by rw [h, h']

theorem ret_bools {a b c d : Bool} (h : a = b) (h' : c = d) : Ending.returned (.tuple #[.bool a, .bool c]) = .returned (.tuple #[.bool b, .bool d]) := by rw [h, h']

set_option maxHeartbeats 1000000 in
theorem do_any (op : Int) (a b : BitVec 64) (w : World) :
    Calls Try.prog 24 #[.int .i64 op, .int .u64 (uv a), .int .u64 (uv b)] w fun e w' => e = .returned (.tuple #[.int .u64 (uv (AM.doV op a b)), .bool (AM.doOk op)]) ∧ w = w' := by
  have hsig := u64_signed
  by_cases hb : b = 0#64
  · have HB := Lib.hid hb
    have f1 := uv_beq0 hb
    clear hb
    rcases AM.op_cases op with rfl | rfl | rfl | rfl | rfl | rfl | rfl | rfl | rfl | rfl | h
    case inr.inr.inr.inr.inr.inr.inr.inr.inr.inr =>
      go_enter Try.func24, Try.ntmps24
      go_wp2
      go_ret2
      exact ⟨ret_two (by rw [AM.doV_out h]; rfl) (by rw [AM.doOk_out h]), rfl⟩
    all_goals
      go_enter Try.func24, Try.ntmps24
      go_wp2
      go_ret2
      first
        | exact ⟨rfl, rfl⟩
        | exact ⟨ret_two (by rw [HB.out]; simp [AM.doV]; rfl) rfl, rfl⟩
        | exact ⟨ret_two (by rw [HB.out]; simp [AM.doV]) rfl, rfl⟩
  · have f1 := uv_nbeq0 hb
    have f2 := uv_ne0 hb
    clear hb
    rcases AM.op_cases op with rfl | rfl | rfl | rfl | rfl | rfl | rfl | rfl | rfl | rfl | h
    case inr.inr.inr.inr.inr.inr.inr.inr.inr.inr =>
      go_enter Try.func24, Try.ntmps24
      go_wp2
      go_ret2
      exact ⟨ret_two (by rw [AM.doV_out h]; rfl) (by rw [AM.doOk_out h]), rfl⟩
    all_goals
      go_enter Try.func24, Try.ntmps24
      go_wp2
      go_ret2
      exact ⟨rfl, rfl⟩

set_option maxHeartbeats 1000000 in
theorem hd_any (op : Int) (a b : BitVec 64) (w : World) :
    Calls Try.prog 25 #[.int .i64 op, .int .u64 (uv a), .int .u64 (uv b)] w fun e w' => e = .returned (.tuple #[.bool (AM.hdV op a b), .bool (AM.hdOk op)]) ∧ w = w' := by
  have h1 := uv_beq a b
  have h2 := uv_bne a b
  have h3 := uv_dlt a b
  have h4 := uv_dle b a
  rcases AM.hop_cases op with rfl | rfl | rfl | rfl | h
  case inr.inr.inr.inr =>
    go_enter Try.func25, Try.ntmps25
    go_wp2
    go_ret2
    exact ⟨ret_bools (by rw [AM.hdV_out h]) (by rw [AM.hdOk_out h]), rfl⟩
  all_goals
    go_enter Try.func25, Try.ntmps25
    go_wp2
    go_ret2
    first
      | exact ⟨rfl, rfl⟩
      | exact ⟨ret_bools (by simp [h1, h2, h3, h4, AM.hdV]) rfl, rfl⟩

set_option maxHeartbeats 1000000 in
theorem rdo9 (a b : BitVec 64) (w : World) :
    Calls Try.prog 34 #[.int .i64 9, .int .u64 (uv a), .int .u64 (uv b)] w fun e w' => e = .returned (.tuple #[.int .u64 (uv (a <<< b.toNat)), .bool true]) ∧ w = w' := by
  go_enter Try.func34, Try.ntmps34
  go_wp2
  go_loop [1, 10] (fun x i => ∃ k : Nat, k ≤ b.toNat ∧ i = .int .u64 k ∧ x = .int .u64 (uv (a <<< k))) (fun _ i => b.toNat - (intOf i).toNat)
  case atStart => exact ⟨0, Nat.zero_le _, rfl, by rw [BitVec.shiftLeft_zero]⟩
  case round =>
    obtain ⟨k, hk, rfl, rfl⟩ := hrel
    have hbl := b.isLt
    by_cases hlt : k < b.toNat
    · have g1 := nat_lt_uv hlt
      by_cases hz : a <<< k = 0#64
      · have g2 := uv_npos hz
        have HZ := Lib.hid hz
        clear hz
        go_wp2_with fail
        go_ret2
        exact ⟨ret_two (by rw [HZ.out, AM.shl_stays HZ.out hk]) rfl, rfl⟩
      · have g2 := uv_pos hz
        clear hz
        go_wp2_with fail
        refine (plus_any _ _ w).mono ?_
        rintro e w' ⟨rfl, rfl⟩
        go_wp2_with fail
        go_round
        case rel => exact ⟨k + 1, by omega, by go_num, by rw [AM.shl_step]⟩
        case measure => simp [intOf]; omega
    · have g1 := nat_nlt_uv hlt
      go_wp2_with fail
      go_ret2
      have e : k = b.toNat := by omega
      exact ⟨ret_two (by rw [e]) rfl, rfl⟩

set_option maxHeartbeats 1000000 in
theorem rdo10 (a b : BitVec 64) (w : World) :
    Calls Try.prog 34 #[.int .i64 10, .int .u64 (uv a), .int .u64 (uv b)] w fun e w' => e = .returned (.tuple #[.int .u64 (uv (a >>> b.toNat)), .bool true]) ∧ w = w' := by
  go_enter Try.func34, Try.ntmps34
  go_wp2
  go_loop [1, 10] (fun x i => ∃ k : Nat, k ≤ b.toNat ∧ i = .int .u64 k ∧ x = .int .u64 (uv (a >>> k))) (fun _ i => b.toNat - (intOf i).toNat)
  case atStart => exact ⟨0, Nat.zero_le _, rfl, by rw [BitVec.ushiftRight_zero]⟩
  case round =>
    obtain ⟨k, hk, rfl, rfl⟩ := hrel
    have hbl := b.isLt
    by_cases hlt : k < b.toNat
    · have g1 := nat_lt_uv hlt
      by_cases hz : a >>> k = 0#64
      · have g2 := uv_npos hz
        have HZ := Lib.hid hz
        clear hz
        go_wp2_with fail
        go_ret2
        exact ⟨ret_two (by rw [HZ.out, AM.shr_stays HZ.out hk]) rfl, rfl⟩
      · have g2 := uv_pos hz
        clear hz
        go_wp2_with fail
        go_round
        case rel => exact ⟨k + 1, by omega, by go_num, by rw [AM.shr_step]⟩
        case measure => simp [intOf]; omega
    · have g1 := nat_nlt_uv hlt
      go_wp2_with fail
      go_ret2
      have e : k = b.toNat := by omega
      exact ⟨ret_two (by rw [e]) rfl, rfl⟩

set_option maxHeartbeats 1000000 in
theorem rdo_any (op : Int) (a b : BitVec 64) (w : World) :
    Calls Try.prog 34 #[.int .i64 op, .int .u64 (uv a), .int .u64 (uv b)] w fun e w' => e = .returned (.tuple #[.int .u64 (uv (AM.doV op a b)), .bool (AM.doOk op)]) ∧ w = w' := by
  rcases AM.op_cases op with rfl | rfl | rfl | rfl | rfl | rfl | rfl | rfl | rfl | rfl | h
  case inr.inr.inr.inr.inr.inr.inr.inr.inl => exact rdo9 a b w
  case inr.inr.inr.inr.inr.inr.inr.inr.inr.inl => exact rdo10 a b w
  case inr.inr.inr.inr.inr.inr.inr.inr.inr.inr =>
    go_enter Try.func34, Try.ntmps34
    go_wp2
    go_ret2
    exact ⟨ret_two (by rw [AM.doV_out h]; rfl) (by rw [AM.doOk_out h]), rfl⟩
  case inl =>
    go_enter Try.func34, Try.ntmps34
    go_wp2_with fail
    refine (plus_any _ _ w).mono ?_
    rintro e w' ⟨rfl, rfl⟩
    go_wp2_with fail
    go_ret2
    exact ⟨rfl, rfl⟩
  case inr.inl =>
    go_enter Try.func34, Try.ntmps34
    go_wp2_with fail
    refine (minus_any _ _ w).mono ?_
    rintro e w' ⟨rfl, rfl⟩
    go_wp2_with fail
    go_ret2
    exact ⟨rfl, rfl⟩
  case inr.inr.inl =>
    go_enter Try.func34, Try.ntmps34
    go_wp2_with fail
    refine (times_any _ _ w).mono ?_
    rintro e w' ⟨rfl, rfl⟩
    go_wp2_with fail
    go_ret2
    exact ⟨rfl, rfl⟩
  case inr.inr.inr.inl | inr.inr.inr.inr.inl =>
    by_cases hb : b = 0#64
    · have HB := Lib.hid hb
      have f1 := uv_npos hb
      clear hb
      go_enter Try.func34, Try.ntmps34
      go_wp2
      go_ret2
      first
        | exact ⟨ret_two (by rw [HB.out]; simp [AM.doV]; rfl) rfl, rfl⟩
        | exact ⟨ret_two (by rw [HB.out]; simp [AM.doV]) rfl, rfl⟩
    · have f1 := uv_pos hb
      have hp : 0 < b.toNat := by unfold uv at f1; omega
      clear hb
      go_enter Try.func34, Try.ntmps34
      go_wp2_with fail
      refine (split_any _ _ hp w).mono ?_
      rintro e w' ⟨rfl, rfl⟩
      go_wp2_with fail
      go_ret2
      exact ⟨rfl, rfl⟩
  all_goals
    go_enter Try.func34, Try.ntmps34
    go_wp2
    go_ret2
    first
      | exact ⟨ret_two (by rw [AM.or_not]; rfl) rfl, rfl⟩
      | exact ⟨ret_two (by rw [AM.and_not]; rfl) rfl, rfl⟩
      | exact ⟨ret_two (by rw [AM.xor_not]; rfl) rfl, rfl⟩

end Go.Proofs.Ytchlokhmcadgaaa
