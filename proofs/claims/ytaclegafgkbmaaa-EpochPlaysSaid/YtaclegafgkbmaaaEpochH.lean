/-
  shows of the law EpochPlays: all that only asks is answered alike. Conditions: those of each theorem.
-/
import Derived.Test.YtaclegafgkbmaaaEpochG
namespace Go.Proofs.Ytaclegafgkbmaaa
open Go.RowKit

set_option maxRecDepth 100000 in
set_option maxHeartbeats 2000000 in
theorem shows_any (w0 w : World) (g gi gr : Nat) (v : Value) (N : Nat) (l : List StepV) (hN1 : 1 ≤ N) (hN : N ≤ 4) (hmax : l.length ≤ 10000) (hP : Both w0 w g gi gr v N (nowOf l) (insOf l N) l) :
    Calls Try.prog 20 #[.pointer (some ⟨g, 0, none⟩), .pointer (some ⟨gr, 0, none⟩)] w fun e w' => e = .returned (.bool true) ∧ Below w.heap.size w w' := by
  have P := Lib.hid hP
  have F0 : Hid (w.cell? ⟨gr, 0, none⟩ = some (.int .i64 N)) := Lib.hid (hP.ref.1.cell 0)
  have hgl : gr < w.heap.size := hP.ref.1.lt
  have HI : Hid ((insOf l N).length ≤ 4) := Lib.hid (by rw [insOf_length]; exact hN)
  have HNB := Lib.hid (nowOf_le l)
  clear hP
  go_enter Try.func20, Try.ntmps20
  go_wp2_with fail
  go_loopw [5] (fun i wr => ∃ z : Int, -1 ≤ z ∧ z ≤ 5 ∧ i = .int .i64 z ∧ Below w.heap.size w wr) (fun i _ => (5 - intOf i).toNat)
  case atStart => exact ⟨-1, by omega, by omega, rfl, Below.refl _ _⟩
  case round =>
    obtain ⟨z, hz1, hz5, rfl, hb⟩ := hrel
    have BB := Lib.hid hb
    clear hb
    by_cases hlt : z < 5
    · go_wp2_with fail
      refine (in_any _ g gi (nowOf l) (insOf l N) z HI.out (P.out.clk.below BB.out)).mono ?_
      rintro e w1 ⟨rfl, d1, rfl⟩
      have B1 := Lib.hid (below_drewN BB.out d1)
      have f0 : (wr.drewN d1).cell? ⟨gr, 0, none⟩ = some (.int .i64 N) := (B1.out.cell hgl).trans F0.out
      generalize wr.drewN d1 = w1 at B1 f0 ⊢
      by_cases hz : 0 ≤ z ∧ z < (N : Int)
      · have g0 := hz.1
        have g1 := hz.2
        rw [inV_ins, if_pos hz, inV_bool _ (inOf_pos l z)]
        clear hz
        go_wp2_with fail
        refine (rin_any _ _ gr N v l z (by omega) (P.out.ref.below B1.out)).mono ?_
        rintro e w2 ⟨rfl, b2⟩
        have B2 := Lib.hid (B1.out.trans (b2.mono B1.out.size))
        clear b2 f0
        generalize inOf l z = x
        generalize decide (0 < x) = y
        go_wp2_with fail
        refine ⟨⟨z + 1, by omega, by omega, by go_num, B2.out⟩, by simp [intOf]; omega⟩
      · rw [inV_ins, if_neg hz]
        by_cases hz0 : z < 0
        · go_wp2_with fail
          refine ⟨⟨z + 1, by omega, by omega, by go_num, B1.out⟩, by simp [intOf]; omega⟩
        · have g0 : ¬ z < (N : Int) := by omega
          clear hz
          go_wp2_with fail
          refine ⟨⟨z + 1, by omega, by omega, by go_num, B1.out⟩, by simp [intOf]; omega⟩
    · have Q := Lib.hid (P.out.more BB.out)
      go_wp2_with fail
      refine (now_any _ g gi (nowOf l) (insOf l N) Q.out.clk).mono ?_
      rintro e w2 ⟨rfl, rfl⟩
      go_wp2_with fail
      refine (rnow_any _ _ gr N v l (by omega) Q.out.ref).mono ?_
      rintro e w2 ⟨rfl, rfl⟩
      go_wp2_with fail
      refine (oldest_any _ g gi (nowOf l) (insOf l N) HI.out Q.out.clk).mono ?_
      rintro e w2 ⟨rfl, rfl⟩
      go_wp2_with fail
      refine (roldest_any _ _ gr N v l (by omega) hN Q.out.ref).mono ?_
      rintro e w2 ⟨rfl, b2⟩
      have Q2 := Lib.hid (Q.out.more b2)
      have BX := Lib.hid (BB.out.trans (b2.mono BB.out.size))
      clear b2
      go_wp2_with fail
      refine (rnow_any _ _ gr N v l (by omega) Q2.out.ref).mono ?_
      rintro e w3 ⟨rfl, rfl⟩
      go_wp2_with fail
      refine (safe_any _ g gi (nowOf l) (insOf l N) (nowOf l) HI.out Q2.out.clk).mono ?_
      rintro e w3 ⟨rfl, rfl⟩
      go_wp2_with fail
      refine (rnow_any _ _ gr N v l (by omega) Q2.out.ref).mono ?_
      rintro e w3 ⟨rfl, rfl⟩
      go_wp2_with fail
      refine (rsafe_any _ _ gr N v l (nowOf l) (by omega) hN Q2.out.ref).mono ?_
      rintro e w3 ⟨rfl, b3⟩
      have Q3 := Lib.hid (Q2.out.more b3)
      have BY := Lib.hid (BX.out.trans (b3.mono BX.out.size))
      clear b3
      have hn1 : nowOf l ≤ 10001 := by have := HNB.out.1; omega
      have hn2 : 1 ≤ nowOf l := HNB.out.2
      go_wp2_with fail
      refine (rnow_any _ _ gr N v l (by omega) Q3.out.ref).mono ?_
      rintro e w4 ⟨rfl, rfl⟩
      go_wp2_with fail
      refine (safe_any _ g gi (nowOf l) (insOf l N) (nowOf l + 1) HI.out Q3.out.clk).mono ?_
      rintro e w4 ⟨rfl, rfl⟩
      go_wp2_with fail
      refine (rnow_any _ _ gr N v l (by omega) Q3.out.ref).mono ?_
      rintro e w4 ⟨rfl, rfl⟩
      go_wp2_with fail
      refine (rsafe_any _ _ gr N v l (nowOf l + 1) (by omega) hN Q3.out.ref).mono ?_
      rintro e w4 ⟨rfl, b4⟩
      have BZ := Lib.hid (BY.out.trans (b4.mono BY.out.size))
      clear b4
      go_wp2_with fail
      go_ret
      exact ⟨rfl, BZ.out⟩

end Go.Proofs.Ytaclegafgkbmaaa
