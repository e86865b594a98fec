/-
  The walk of the law ArithParts. Conditions: the two lists together hold at most 2097152 numbers.
-/
import Derived.Test.YtonodmeacpaifaaArithFoldsW
namespace Go.Proofs.Ytonodmeacpaifaa
open Go.RowKit

set_option maxRecDepth 100000 in
set_option maxHeartbeats 1000000 in
theorem parts_none (A : Option Addr) (c : Nat) (v2 : Value) (w : World) :
    Calls Try.prog 7 #[.slice A 0 c, v2] w fun e w' => e = .returned (.bool true) ∧ Below w.heap.size w w' := by
  go_enter Try.func7, Try.ntmps7
  go_wp2_with fail
  refine (awake_any w).mono ?_
  rintro e w' ⟨rfl, rfl⟩
  have hb : Below w.heap.size w (w.alloc (.cells #[.int .u64 10, .int .u64 3, .int .u64 4] 22)) := (Below.refl _ _).alloc (Nat.le_refl _) _
  have HB := Lib.hid hb
  clear hb
  generalize w.alloc (.cells #[.int .u64 10, .int .u64 3, .int .u64 4] 22) = w1 at HB ⊢
  go_wp2_with fail
  refine (fold_any 1 [] none 0 0 rfl (by omega) (by omega) w1 (Sl.nil _ _)).mono ?_
  rintro e w' ⟨rfl, rfl⟩
  have e1 : uv (AM.foldV 1 []) = 0 := rfl
  have e2 : AM.foldOk 1 [] = false := rfl
  rw [e1, e2]
  go_wp2_with fail
  go_ret
  exact ⟨rfl, HB.out⟩

theorem back_step (us : List (BitVec 64)) (n p : Nat) (hn : n = us.length) (h : p < n) : words (us.reverse.take (n - (p + 1))) ++ [Value.int .u64 (uv (wordAt us p))] = words (us.reverse.take (n - p)) := by
  subst hn
  rw [show us.length - p = us.length - (p + 1) + 1 from by omega, List.take_succ_eq_append_getElem (by rw [List.length_reverse]; omega), ← words_append]
  congr 1
  simp only [words, List.map_cons, List.map_nil, List.getElem_reverse]
  rw [wordAt_eq _ _ (by omega)]
  congr 5
  omega

set_option maxRecDepth 100000 in
set_option maxHeartbeats 2000000 in
theorem parts_some (us vs : List (BitVec 64)) (b o n c m d : Nat) (B : Option Addr) (hn : n = us.length) (hvs : m = vs.length) (hp : 0 < n) (hc : n ≤ c) (hd : m ≤ d) (hm : n + m ≤ 2097152) (w : World)
    (hs : Sl w (some ⟨b, o, none⟩) (words us)) (hcell : ∀ j, j < us.length → w.cell? ⟨b, o + j, none⟩ = some (.int .u64 (uv (wordAt us j)))) (hs2 : Sl w B (words vs)) :
    Calls Try.prog 7 #[.slice (some ⟨b, o, none⟩) n c, .slice B m d] w fun e w' => e = .returned (.bool true) ∧ Below w.heap.size w w' := by
  obtain ⟨i0, hi0, hz0, hz1, hz2⟩ := info_parts u64_info
  have HS := Lib.hid hs
  have HT := Lib.hid hs2
  have HN := Lib.hid hn
  have HM := Lib.hid hvs
  have HC := Lib.hid hcell
  have f0 : ((n : Int) == 0) = false := by simp; omega
  clear hs hn hcell hs2 hvs
  go_enter Try.func7, Try.ntmps7
  go_wp2_with fail
  refine (awake_any w).mono ?_
  rintro e w' ⟨rfl, rfl⟩
  have hb : Below w.heap.size w (w.alloc (.cells #[.int .u64 10, .int .u64 3, .int .u64 4] 22)) := (Below.refl _ _).alloc (Nat.le_refl _) _
  have HB := Lib.hid hb
  clear hb
  generalize w.alloc (.cells #[.int .u64 10, .int .u64 3, .int .u64 4] 22) = w1 at HB ⊢
  go_wp2_with fail
  go_loopw [7] (fun i wr => ∃ k : Nat, 1 ≤ k ∧ k ≤ 11 ∧ i = .int .i64 k ∧ Below w.heap.size w wr) (fun i _ => 11 - (intOf i).toNat)
  case atStart => exact ⟨1, by omega, by omega, rfl, HB.out⟩
  case round =>
    obtain ⟨k, hk1, hk, rfl, hbr⟩ := hrel
    have HBR := Lib.hid hbr
    clear hbr
    by_cases hlt : k ≤ 10
    · have hok : AM.doOk (k : Int) = true := by unfold AM.doOk; simp; omega
      have HOK := Lib.hid hok
      clear hok
      go_wp2_with fail
      refine (fold_any k us _ n c HN.out hc (by omega) wr (HS.out.below HBR.out)).mono ?_
      rintro e w' ⟨rfl, rfl⟩
      have HL1 : Hid ((words us).length = n * 1) := Lib.hid (by rw [words_length, HN.out]; omega)
      have HL2 : Hid ((words vs).length = m * 1) := Lib.hid (by rw [words_length, HM.out]; omega)
      go_wp2_with (first
        | (at_builtin
           refine wpList_append_in _ rfl (.tmp 46) (.tmp 47) _ rfl (below_alloc HBR.out _) 22 i0 _ 1 8 Try.underlying32 hi0 hz0 hz1 hz2 rfl (by omega) _ 0 [] rfl (own_empty HBR.out _ _)
             (some ⟨b, o, none⟩) n c (words us) rfl HL1.out (HS.out.below (below_alloc HBR.out _)) (words_one us) (by omega) (by omega) ?_
           intro v3 w3 hown3 hb3 g1 g2
           have HB3 := Lib.hid hb3
           clear hb3 g1 g2)
        | (at_builtin
           refine wpList_append_in _ rfl (.tmp 48) (.tmp 49) _ rfl HB3.out 22 i0 _ 1 8 Try.underlying32 hi0 hz0 hz1 hz2 rfl (by omega) v3 (0 + n) _ rfl hown3
             B m d (words vs) rfl HL2.out (HT.out.below HB3.out) (words_one vs) (by omega) (by omega) ?_
           intro v4 w4 hown4 hb4 g1 g2
           have HB4 := Lib.hid hb4
           clear hb4 g1 g2))
      have hex := own_form hown4
      obtain ⟨A4, c4, hv4, hnc4, hcm4, hsl4, _⟩ := hex
      rw [hv4]
      simp only [List.nil_append, words_append] at hsl4
      clear hown4 hown3 hv4
      refine (fold_any k (us ++ vs) A4 (0 + n + m) c4 (by rw [List.length_append, ← HN.out, ← HM.out]; omega) hnc4 (by omega) w4 hsl4).mono ?_
      rintro e w' ⟨rfl, rfl⟩
      have e5 : AM.foldOk (k : Int) (us ++ vs) = true := by
        unfold AM.foldOk; rw [HOK.out]; have := HN.out; cases us <;> simp_all
      rw [e5]
      clear e5 hsl4
      go_wp2_with
        (at_builtin
         refine wpList_append_in _ rfl (.tmp 57) (.tmp 58) _ rfl (below_alloc HB4.out _) 22 i0 _ 1 8 Try.underlying32 hi0 hz0 hz1 hz2 rfl (by omega) _ 1 _ rfl (own_one HB4.out _ _)
           B m d (words vs) rfl HL2.out (HT.out.below (below_alloc HB4.out _)) (words_one vs) (by omega) (by omega) ?_
         intro v5 w5 hown5 hb5 g1 g2
         have HB5 := Lib.hid hb5
         clear hb5 g1 g2)
      have hex := own_form hown5
      obtain ⟨A5, c5, hv5, hnc5, hcm5, hsl5, _⟩ := hex
      rw [hv5]
      clear hown5 hv5
      refine (fold_any k (AM.foldV k us :: vs) A5 (1 + m) c5 (by rw [List.length_cons, ← HM.out]; omega) hnc5 (by omega) w5 hsl5).mono ?_
      rintro e w' ⟨rfl, rfl⟩
      have e6 : AM.foldOk (k : Int) (AM.foldV k us :: vs) = true := by unfold AM.foldOk; rw [HOK.out]; rfl
      rw [e6, AM.foldV_append _ us vs (by have := HN.out; omega) HOK.out]
      clear e6 hsl5
      go_wp2_with fail
      go_loopw [14, 15] (fun bk i wr => ∃ (q : Nat) (z : Int), q ≤ n ∧ z = (q : Int) - 1 ∧ i = .int .i64 z ∧ wr.ownsRow w.heap.size 22 1 bk (n - q) (words (us.reverse.take (n - q))) ∧ Below w.heap.size w wr)
        (fun _ i _ => (intOf i + 1).toNat)
      case atStart => exact ⟨n, (n : Int) - 1, Nat.le_refl _, rfl, rfl, by rw [Nat.sub_self]; exact World.ownsRow_nil _ _ _ _, HB5.out⟩
      case round =>
        obtain ⟨q, z, hq, hz, rfl, hownb, hbi⟩ := hrel
        have HBI := Lib.hid hbi
        clear hbi
        by_cases hq0 : 0 < q
        · obtain ⟨p, rfl⟩ : ∃ p, q = p + 1 := ⟨q - 1, by omega⟩
          obtain rfl : z = (p : Int) := by omega
          clear hz
          have f1 : wr.cell? ⟨b, o + p, none⟩ = some (.int .u64 (uv (wordAt us p))) := by
            rw [HBI.out.cell (cell_lt (HC.out p (by have := HN.out; omega)))]; exact HC.out p (by have := HN.out; omega)
          have g1 : (p : Int) < (n : Int) := by omega
          have HOWN := Lib.hid hownb
          clear hownb
          go_wp2_with
            (at_builtin
             refine wpList_append_in _ rfl (.tmp 81) (.tmp 86) _ rfl (below_alloc HBI.out _) 22 i0 _ 1 8 Try.underlying32 hi0 hz0 hz1 hz2 rfl (by omega) _ (n - (p + 1)) _ rfl (HOWN.out.alloc _)
               (some ⟨wr.heap.size, 0, none⟩) 1 1 [.int .u64 (uv (wordAt us p))] rfl rfl (Sl.fresh wr #[.int .u64 (uv (wordAt us p))] 22 (0, 0)) (words_one [wordAt us p]) (by omega) (by omega) ?_
             intro v6 w6 hown6 hb6 g2 g3
             clear g2 g3)
          rw [back_step us n p HN.out (by omega), show n - (p + 1) + 1 = n - p from by omega] at hown6
          go_wp2_with fail
          go_roundw
          case rel => exact ⟨p, (p : Int) - 1, by omega, rfl, rfl, hown6, hb6⟩
          case measure => simp [intOf]
        · obtain rfl : q = 0 := by omega
          obtain rfl : z = -1 := by omega
          clear hz hq0
          have hex := own_form hownb
          obtain ⟨A7, c7, hv7, hnc7, hcm7, hsl7, _⟩ := hex
          rw [hv7]
          clear hownb hv7
          go_wp2_with fail
          have e8 : us.reverse.take (n - 0) = us.reverse := by rw [Nat.sub_zero, HN.out, ← List.length_reverse, List.take_length]
          rw [e8] at hsl7
          refine (fold_any k us.reverse A7 n c7 (by rw [List.length_reverse]; exact HN.out) (by omega) (by omega) wr hsl7).mono ?_
          rintro e w' ⟨rfl, rfl⟩
          clear hsl7 e8
          by_cases hf : AM.isFree (k : Int)
          · rw [AM.foldV_reverse hf us (by have := HN.out; omega)]
            clear hf
            go_wp2_with fail
            all_goals
              go_roundw
              case rel => exact ⟨k + 1, by omega, by omega, by go_num, HBI.out⟩
              case measure => simp [intOf]; omega
          · unfold AM.isFree at hf
            have n1 : ((k : Int) == 1) = false := by simp; omega
            have n2 : ((k : Int) == 3) = false := by simp; omega
            have n3 : ((k : Int) == 6) = false := by simp; omega
            have n4 : ((k : Int) == 7) = false := by simp; omega
            have n5 : ((k : Int) == 8) = false := by simp; omega
            clear hf
            go_wp2_with fail
            go_roundw
            case rel => exact ⟨k + 1, by omega, by omega, by go_num, HBI.out⟩
            case measure => simp [intOf]; omega
    · go_wp2_with fail
      go_ret
      exact ⟨rfl, HBR.out⟩

theorem parts_law (w : World) (us : List (BitVec 64)) (v : Value) (hr : RdWords w v us) (vs : List (BitVec 64)) (v' : Value) (hr' : RdWords w v' vs) (hm : us.length + vs.length ≤ 2097152) :
    Calls Try.prog 7 #[v, v'] w fun e w' => e = .returned (.bool true) ∧ Below w.heap.size w w' := by
  obtain ⟨⟨A, c, rfl, hc, hs⟩, _⟩ := hr
  obtain ⟨⟨B, d, rfl, hd, hs'⟩, _⟩ := hr'
  by_cases hp : 0 < us.length
  · obtain ⟨b, o, rfl, hcell⟩ := hs.words_at hp
    exact parts_some us vs b o us.length c vs.length d B rfl rfl hp hc hd hm w hs hcell hs'
  · obtain rfl : us = [] := List.eq_nil_of_length_eq_zero (by omega)
    exact parts_none A c _ w

end Go.Proofs.Ytonodmeacpaifaa
