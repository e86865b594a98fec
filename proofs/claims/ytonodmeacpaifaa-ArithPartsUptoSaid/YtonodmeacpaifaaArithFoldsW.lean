/-
  The walk of the law ArithFolds. Conditions: none.
-/
import Derived.Test.YtonodmeacpaifaaArithAwake
import Derived.Test.YtonodmeacpaifaaMem
import Derived.Deep.QuietTactic
import Derived.BigQuiet
import Derived.Deep.Draws
import Derived.Test.YtonodmeacpaifaaOpen
namespace Go.Proofs.Ytonodmeacpaifaa
open Go.RowKit

theorem u64_info : (Try.prog.info? 22).map (fun i => (i.zero, i.size, i.bytes)) = some (some (.int .u64 0), 1, 8) := by kernel_rfl

set_option maxRecDepth 100000 in
set_option maxHeartbeats 1000000 in
theorem folds_some (op : Int) (us : List (BitVec 64)) (b o n c : Nat) (hn : n = us.length) (hp : 0 < n) (hc : n ≤ c) (hm : n * 8 ≤ 140737488351232) (w : World)
    (hs : Sl w (some ⟨b, o, none⟩) (words us)) (hcell : ∀ j, j < us.length → w.cell? ⟨b, o + j, none⟩ = some (.int .u64 (uv (wordAt us j)))) :
    Calls Try.prog 4 #[.int .i64 op, .slice (some ⟨b, o, none⟩) n c] w fun e w' => e = .returned (.bool true) ∧ Below w.heap.size w w' := by
  obtain ⟨i0, hi0, hz0, hz1, hz2⟩ := info_parts u64_info
  have HS := Lib.hid hs
  have HN := Lib.hid hn
  have HC := Lib.hid hcell
  clear hs hn hcell
  go_enter Try.func4, Try.ntmps4
  go_wp2_with fail
  refine (awake_any w).mono ?_
  rintro e w' ⟨rfl, rfl⟩
  have hb : Below w.heap.size w (w.alloc (.cells #[.int .u64 10, .int .u64 3, .int .u64 4] 22)) := (Below.refl _ _).alloc (Nat.le_refl _) _
  have HB := Lib.hid hb
  clear hb
  generalize w.alloc (.cells #[.int .u64 10, .int .u64 3, .int .u64 4] 22) = w1 at HB ⊢
  have HS1 := Lib.hid (HS.out.below HB.out)
  have HL : Hid ((words us).length = n * 1) := Lib.hid (by rw [words_length, HN.out]; omega)
  go_wp2_with
    (at_builtin
     refine wpList_append_sl _ rfl (.tmp 13) (.tmp 14) _ rfl w1.heap.size 22 i0 _ 1 8 Try.underlying32 hi0 hz0 hz1 hz2 rfl (by omega) (.slice (some ⟨w1.heap.size, 0, none⟩) 0 0) 0 [] rfl (World.ownsRow_made w1 #[] 0 (Nat.le_refl _) (by simp [maxLen]) rfl) (some ⟨b, o, none⟩) n c (words us) rfl HL.out (HS1.out.alloc _) (words_one us) (by simp only [maxLen]; omega) (by omega) (by simp) ?_
     intro v2 w2 hown hgr hat)
  simp only [Nat.zero_add, List.nil_append] at hown
  have hB2 : Below w.heap.size w w2 := (HB.out.alloc HB.out.size _).grown hgr (by have := HB.out.size; simp; omega) (by intro k hk; simp [Value.ownBlock] at hk; subst hk; exact HB.out.size)
  have HB2 := Lib.hid hB2
  have HSA := Lib.hid (HS.out.below hB2)
  have hex := own_form hown
  obtain ⟨A2, c2, hv, hnc, hcm, hsl, _⟩ := hex
  obtain ⟨b2, o2, hA2, hcell2⟩ := hsl.words_at (by have := HN.out; omega)
  have HSB := Lib.hid hsl
  have HC2 := Lib.hid hcell2
  have hcellA : ∀ j, j < us.length → w2.cell? ⟨b, o + j, none⟩ = some (.int .u64 (uv (wordAt us j))) := fun j hj => by
    rw [hB2.cell (cell_lt (HC.out j hj))]; exact HC.out j hj
  have HCA := Lib.hid hcellA
  rw [hv, hA2]
  rw [hA2] at HSB
  clear hown hgr hat hB2 hv hA2 hsl hcell2 hcellA
  refine (fold_any op us _ n c2 HN.out hnc (by omega) w2 HSB.out).mono ?_
  rintro e w' ⟨rfl, rfl⟩
  go_wp2_with fail
  refine (rfold_any op us _ n c HN.out (by omega) w2 HSA.out).mono ?_
  rintro e w' ⟨rfl, rfl⟩
  go_wp2_with fail
  go_loopw [10] (fun i wr => ∃ k d : Nat, k ≤ n ∧ i = .int .i64 k ∧ wr = w2.drewN d) (fun i _ => n - (intOf i).toNat)
  case atStart => exact ⟨0, 0, Nat.zero_le _, rfl, rfl⟩
  case round =>
    obtain ⟨k, d, hk, rfl, rfl⟩ := hrel
    by_cases hlt : k < n
    · have f1 := HC2.out k (by have := HN.out; omega)
      have f2 := HCA.out k (by have := HN.out; omega)
      have g1 : (k : Int) < (n : Int) := by omega
      go_wp2_with fail
      go_quiet (fail)
      go_wp2_with fail
      go_roundw
      case rel => exact ⟨k + 1, d + nq, by omega, by go_num, rfl⟩
      case measure => simp [intOf]; omega
    · go_wp2_with fail
      go_ret
      exact ⟨rfl, below_drewN HB2.out d⟩

set_option maxRecDepth 100000 in
set_option maxHeartbeats 1000000 in
theorem folds_none (op : Int) (A : Option Addr) (c : Nat) (w : World) :
    Calls Try.prog 4 #[.int .i64 op, .slice A 0 c] w fun e w' => e = .returned (.bool true) ∧ Below w.heap.size w w' := by
  obtain ⟨i0, hi0, hz0, hz1, hz2⟩ := info_parts u64_info
  go_enter Try.func4, Try.ntmps4
  go_wp2_with fail
  refine (awake_any w).mono ?_
  rintro e w' ⟨rfl, rfl⟩
  have hb : Below w.heap.size w (w.alloc (.cells #[.int .u64 10, .int .u64 3, .int .u64 4] 22)) := (Below.refl _ _).alloc (Nat.le_refl _) _
  have HB := Lib.hid hb
  clear hb
  generalize w.alloc (.cells #[.int .u64 10, .int .u64 3, .int .u64 4] 22) = w1 at HB ⊢
  go_wp2_with
    (at_builtin
     refine wpList_append_sl _ rfl (.tmp 13) (.tmp 14) _ rfl w1.heap.size 22 i0 _ 1 8 Try.underlying32 hi0 hz0 hz1 hz2 rfl (by omega) (.slice (some ⟨w1.heap.size, 0, none⟩) 0 0) 0 [] rfl (World.ownsRow_made w1 #[] 0 (Nat.le_refl _) (by simp [maxLen]) rfl) A 0 c [] rfl rfl (Sl.nil _ _) (words_one []) (by simp only [maxLen]; omega) (by omega) (by simp) ?_
     intro v2 w2 hown hgr hat)
  simp only [Nat.zero_add, List.nil_append] at hown
  have hB2 : Below w.heap.size w w2 := (HB.out.alloc HB.out.size _).grown hgr (by have := HB.out.size; simp; omega) (by intro k hk; simp [Value.ownBlock] at hk; subst hk; exact HB.out.size)
  have HB2 := Lib.hid hB2
  have hex := own_form hown
  obtain ⟨A2, c2, hv, hnc, hcm, hsl, _⟩ := hex
  rw [hv]
  clear hown hgr hat hB2 hv hsl
  refine (fold_any op [] _ 0 c2 rfl hnc (by omega) w2 (Sl.nil _ _)).mono ?_
  rintro e w' ⟨rfl, rfl⟩
  go_wp2_with fail
  refine (rfold_any op [] _ 0 c rfl (by omega) w2 (Sl.nil _ _)).mono ?_
  rintro e w' ⟨rfl, rfl⟩
  go_wp2_with fail
  refine wp_loop_rounds 1 ?_
  rw [rounds_succ]
  go_wp2_with fail
  go_ret
  exact ⟨rfl, HB2.out⟩

theorem folds_law (w : World) (op : Int) (_ : (Lit.int .i64 op).wf = true) (us : List (BitVec 64)) (v : Value) (hr : RdWords w v us) :
    Calls Try.prog 4 #[.int .i64 op, v] w fun e w' => e = .returned (.bool true) ∧ Below w.heap.size w w' := by
  obtain ⟨⟨A, c, rfl, hc, hs⟩, hm⟩ := hr
  by_cases hp : 0 < us.length
  · obtain ⟨b, o, rfl, hcell⟩ := hs.words_at hp
    exact folds_some op us b o us.length c rfl hp hc hm w hs hcell
  · obtain rfl : us = [] := List.eq_nil_of_length_eq_zero (by omega)
    exact folds_none op A c w

end Go.Proofs.Ytonodmeacpaifaa
