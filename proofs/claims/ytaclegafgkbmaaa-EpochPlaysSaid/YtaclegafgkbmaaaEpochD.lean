/-
  The reference's clock goes on: Enter, Advance of tappetref17. Conditions: those of each theorem.
-/
import Derived.Test.YtaclegafgkbmaaaEpochC
import Derived.Test.YtaclegafgkbmaaaGrow
namespace Go.Proofs.Ytaclegafgkbmaaa
open Go.RowKit

theorem RClk.tch {B : Nat} {S : Nat → Prop} {w w' : World} {g : Nat} {N : Int} {v : Value} {l : List StepV} (h : RClk B w g N v l) (k : Tch S w w') (hg : ¬ S g) (hv : ∀ i, v.ownBlock = some i → ¬ S i) : RClk B w' g N v l := ⟨h.1.tch k hg, own_tch h.2 k hv⟩
/-- the document's clock has gone on; nothing but it and its list's block is touched -/
structure CGrew (w0 w w' : World) (g : Nat) (N : Int) (v v' : Value) (l : List StepV) : Prop where
  clk : RClk w0.heap.size w' g N v' l
  tch : Tch (fun i => i = g ∨ v.ownBlock = some i) w w'
  blk : ∀ i, v'.ownBlock = some i → v.ownBlock = some i ∨ w.heap.size ≤ i
  low : Below w0.heap.size w0 w'
theorem CGrew.refl {w0 w : World} {g : Nat} {N : Int} {v : Value} {l : List StepV} (h : RClk w0.heap.size w g N v l) (hB : Below w0.heap.size w0 w) : CGrew w0 w w g N v v l := ⟨h, Tch.refl _ _, fun _ h => .inl h, hB⟩
theorem CGrew.trans {w0 w w' w'' : World} {g : Nat} {N : Int} {v v' v'' : Value} {l l' : List StepV} (h : CGrew w0 w w' g N v v' l) (k : CGrew w0 w' w'' g N v' v'' l') : CGrew w0 w w'' g N v v'' l' :=
  ⟨k.clk, Tch.then h.tch k.tch (fun _ hi => hi) (fun i hi hlt => hi.imp id fun hi => (h.blk i hi).elim id fun h2 => absurd hlt (Nat.not_lt.2 h2)), fun i hi => (k.blk i hi).elim (h.blk i) fun h2 => .inr (Nat.le_trans h.tch.size h2), k.low⟩
/-- a step that has changed nothing that stood there -/
theorem CGrew.of_below {w0 w w' : World} {g : Nat} {N : Int} {v : Value} {l : List StepV} (h : RClk w0.heap.size w g N v l) (hB : Below w0.heap.size w0 w) (hb : Below w.heap.size w w') : CGrew w0 w w' g N v v l :=
  ⟨h.below hb, Tch.of_below hb, fun _ h => .inl h, hB.trans (hb.mono hB.size)⟩

/-- one more step: appended out of a new block, stored into the clock -/
theorem CGrew.snoc {w0 w w' : World} {g : Nat} {N : Int} {v v' : Value} {l : List StepV} {t : StepV} (o : Obj) (h : RClk w0.heap.size w g N v l) (hg : w0.heap.size ≤ g) (hown : w'.ownsRow w0.heap.size 53 2 v' (l.length + 1) (stvs l ++ stv t)) (hb : Below w0.heap.size w0 w')
    (g1 : (w.alloc o).grownBy w' v.ownBlock) (g2 : v'.ownBlock = v.ownBlock ∨ v'.ownBlock = some (w.alloc o).heap.size) : CGrew w0 w (w'.setCell ⟨g, 1, none⟩ v') g N v v' (l ++ [t]) := by
  have ht : w.grownBy w' v.ownBlock := (World.grownBy_alloc w o _).trans g1
  have hv := own_typed h.2 h.1 (by decide)
  have ho : Ob w' g 44 [.int .i64 N, v] := Ob.grown h.1 ht fun e => hv e.symm
  have hv' := own_typed hown ho (by decide)
  have hon : Only w' (w'.setCell ⟨g, 1, none⟩ v') g := (Only.refl w' g).setCell rfl v'
  refine ⟨⟨ho.set_ 1 v', ?_⟩, ?_, ?_, Only.below hb hon hb.size hg⟩
  · have h2 := World.ownsRow.kept hown hon (.inr hv')
    rw [stvs_app, List.length_append]
    simpa [stvs] using h2
  · exact Tch.then (Tch.of_grown ht) (Tch.of_only hon) (fun i hi => .inr hi) (fun i hi _ => .inl hi)
  · intro i hi
    rcases g2 with h2 | h2
    · exact .inl (h2 ▸ hi)
    · rw [h2] at hi
      injection hi with hi
      subst hi
      exact .inr (by simp)
theorem CGrew.mid {w0 w w' : World} {g : Nat} {N : Int} {v : Value} {l : List StepV} (o : Obj) (h : RClk w0.heap.size w g N v l) (g1 : (w.alloc o).grownBy w' v.ownBlock) : Ob w' g 44 [.int .i64 N, v] :=
  Ob.grown h.1 ((World.grownBy_alloc w o _).trans g1) fun e => own_typed h.2 h.1 (by decide) e.symm

theorem step_info : (Try.prog.info? 53).map (fun i => (i.zero, i.size, i.bytes)) = some (some (.agg #[.int .i64 0, .int .i64 0]), 2, 16) := by kernel_rfl

/-- what Enter answers and does -/
def reC (l : List StepV) (N h : Int) : Int := if 0 ≤ h ∧ h < N then (if 0 < inOf l h then 42 else 0) else 2
def reL (l : List StepV) (N h : Int) : List StepV := if reC l N h = 0 then l ++ [⟨1, h⟩] else l
def reV (l : List StepV) (N h : Int) : Int := if reC l N h = 0 then nowOf l else 0
theorem reC_out {l : List StepV} {N h : Int} (hh : h < 0 ∨ N ≤ h) : reC l N h = 2 := by unfold reC; rw [if_neg (by omega)]
theorem reC_busy {l : List StepV} {N h : Int} (h0 : 0 ≤ h) (h1 : h < N) (hi : 0 < inOf l h) : reC l N h = 42 := by unfold reC; rw [if_pos ⟨h0, h1⟩, if_pos hi]
theorem reC_ok {l : List StepV} {N h : Int} (h0 : 0 ≤ h) (h1 : h < N) (hi : ¬ 0 < inOf l h) : reC l N h = 0 := by unfold reC; rw [if_pos ⟨h0, h1⟩, if_neg hi]
theorem reL_ne {l : List StepV} {N h : Int} (hc : reC l N h ≠ 0) : reL l N h = l := by unfold reL; rw [if_neg hc]
theorem reL_eq {l : List StepV} {N h : Int} (hc : reC l N h = 0) : reL l N h = l ++ [⟨1, h⟩] := by unfold reL; rw [if_pos hc]
theorem reV_ne {l : List StepV} {N h : Int} (hc : reC l N h ≠ 0) : reV l N h = 0 := by unfold reV; rw [if_neg hc]
theorem reV_eq {l : List StepV} {N h : Int} (hc : reC l N h = 0) : reV l N h = nowOf (l ++ [⟨1, h⟩]) := by unfold reV; rw [if_pos hc, nowOf_snoc]; rfl

set_option maxRecDepth 100000 in
set_option maxHeartbeats 1000000 in
theorem renter_any (w0 w : World) (g : Nat) (N : Int) (v : Value) (l : List StepV) (h : Int) (hB : Below w0.heap.size w0 w) (hg : w0.heap.size ≤ g) (hmax : l.length ≤ 10000) (hc : RClk w0.heap.size w g N v l) :
    Calls Try.prog 16 #[.pointer (some ⟨g, 0, none⟩), .int .i64 h] w fun e w' => e = .returned (.tuple #[.int .i64 (reV l N h), .int .i64 (reC l N h)]) ∧ ∃ v', CGrew w0 w w' g N v v' (reL l N h) := by
  have f0 : w.cell? ⟨g, 0, none⟩ = some (.int .i64 N) := hc.1.cell 0
  have HB := Lib.hid hB
  have HK := Lib.hid hc
  clear hB hc
  by_cases h0 : h < 0
  · rw [reC_out (.inl h0), reV_ne (by rw [reC_out (.inl h0)]; decide), reL_ne (by rw [reC_out (.inl h0)]; decide)]
    go_enter Try.func16, Try.ntmps16
    go_wp2_with fail
    go_ret2
    exact ⟨rfl, v, CGrew.refl HK.out HB.out⟩
  · by_cases h1 : N ≤ h
    · rw [reC_out (.inr h1), reV_ne (by rw [reC_out (.inr h1)]; decide), reL_ne (by rw [reC_out (.inr h1)]; decide)]
      go_enter Try.func16, Try.ntmps16
      go_wp2_with fail
      go_ret2
      exact ⟨rfl, v, CGrew.refl HK.out HB.out⟩
    · have HH0 := Lib.hid (show 0 ≤ h by omega)
      have HH1 := Lib.hid (show h < N by omega)
      by_cases hi : 0 < inOf l h
      · have hdec : decide (0 < inOf l h) = true := by simpa using hi
        rw [reC_busy HH0.out HH1.out hi, reV_ne (by rw [reC_busy HH0.out HH1.out hi]; decide), reL_ne (by rw [reC_busy HH0.out HH1.out hi]; decide)]
        clear hi
        go_enter Try.func16, Try.ntmps16
        go_wp2_with fail
        refine (rin_any _ _ g N v l h (by omega) HK.out).mono ?_
        rintro e w1 ⟨rfl, b1⟩
        rw [hdec]
        have G1 := Lib.hid (CGrew.of_below HK.out HB.out b1)
        clear b1
        go_wp2_with fail
        go_ret2
        exact ⟨rfl, v, G1.out⟩
      · have hdec : decide (0 < inOf l h) = false := by simpa using hi
        rw [reC_ok HH0.out HH1.out hi, reV_eq (reC_ok HH0.out HH1.out hi), reL_eq (reC_ok HH0.out HH1.out hi)]
        clear hi
        obtain ⟨i0, hi0, hz0, hz1, hz2⟩ := info_parts step_info
        go_enter Try.func16, Try.ntmps16
        go_wp2_with fail
        refine (rin_any _ _ g N v l h (by omega) HK.out).mono ?_
        rintro e w1 ⟨rfl, b1⟩
        rw [hdec]
        have G1 := Lib.hid (CGrew.of_below HK.out HB.out b1)
        clear b1 f0
        have f1 : w1.cell? ⟨g, 1, none⟩ = some v := G1.out.clk.1.cell 1
        have hgl : g < w1.heap.size := G1.out.clk.1.lt
        go_wp2_with
          (at_builtin
           refine wpList_append_in _ rfl (.tmp 29) (.tmp 32) _ rfl (below_alloc G1.out.low _) 53 i0 _ 2 16 Try.underlying42 hi0 hz0 hz1 hz2 rfl (by omega) v l.length (stvs l) rfl (World.ownsRow.alloc G1.out.clk.2 _)
             (some ⟨w1.heap.size, 0, none⟩) 1 1 (stv ⟨1, h⟩) rfl rfl (Sl.fresh w1 (stv ⟨1, h⟩).toArray 53 (0, 0)) (stv_one _) (by omega) (by omega) ?_
           intro v2 w2 hown hb2 g1 g2
           obtain ⟨A2, c2, rfl, _, _, _, _⟩ := own_form hown
           have HG := Lib.hid (CGrew.snoc (w := w1) (t := ⟨1, h⟩) _ G1.out.clk hg hown hb2 g1 g2)
           have OM := Lib.hid (CGrew.mid (w := w1) _ G1.out.clk g1)
           have zl : ∀ i, w2.frozen? ⟨g, i, none⟩ = false := OM.out.frozen
           have y1 : w2.cell? ⟨g, 1, none⟩ = some v := OM.out.cell 1
           clear hown hb2 g1 g2 f1)
        refine (rnow_any _ _ g N _ _ (by simp; omega) HG.out.clk).mono ?_
        rintro e w3 ⟨rfl, rfl⟩
        go_wp2_with fail
        go_ret2
        exact ⟨rfl, _, G1.out.trans HG.out⟩

set_option maxRecDepth 100000 in
set_option maxHeartbeats 1000000 in
theorem radvance_any (w0 w : World) (g : Nat) (N : Int) (v : Value) (l : List StepV) (hB : Below w0.heap.size w0 w) (hg : w0.heap.size ≤ g) (hmax : l.length ≤ 10000) (hc : RClk w0.heap.size w g N v l) :
    Calls Try.prog 18 #[.pointer (some ⟨g, 0, none⟩)] w fun e w' => e = .returned (.int .i64 (nowOf l + 1)) ∧ ∃ v', CGrew w0 w w' g N v v' (l ++ [⟨3, 0⟩]) := by
  have hn1 : nowOf l + 1 = nowOf (l ++ [⟨3, 0⟩]) := by rw [nowOf_snoc]; rfl
  rw [hn1]
  clear hn1
  have hcl : w.cell? ⟨g, 1, none⟩ = some v := hc.1.cell 1
  have hgl : g < w.heap.size := hc.1.lt
  have HB := Lib.hid hB
  have HK := Lib.hid hc
  clear hB hc
  obtain ⟨i0, hi0, hz0, hz1, hz2⟩ := info_parts step_info
  go_enter Try.func18, Try.ntmps18
  go_wp2_with
    (at_builtin
     refine wpList_append_in _ rfl (.tmp 7) (.tmp 9) _ rfl (below_alloc HB.out _) 53 i0 _ 2 16 Try.underlying42 hi0 hz0 hz1 hz2 rfl (by omega) v l.length (stvs l) rfl (World.ownsRow.alloc HK.out.2 _)
       (some ⟨w.heap.size, 0, none⟩) 1 1 (stv ⟨3, 0⟩) rfl rfl (Sl.fresh w (stv ⟨3, 0⟩).toArray 53 (0, 0)) (stv_one _) (by omega) (by omega) ?_
     intro v2 w2 hown hb2 g1 g2
     obtain ⟨A2, c2, rfl, _, _, _, _⟩ := own_form hown
     have HG := Lib.hid (CGrew.snoc (w := w) (t := ⟨3, 0⟩) _ HK.out hg hown hb2 g1 g2)
     have OM := Lib.hid (CGrew.mid (w := w) _ HK.out g1)
     have zl : ∀ i, w2.frozen? ⟨g, i, none⟩ = false := OM.out.frozen
     have y1 : w2.cell? ⟨g, 1, none⟩ = some v := OM.out.cell 1
     clear hown hb2 g1 g2 hcl)
  refine (rnow_any _ _ g N _ _ (by simp; omega) HG.out.clk).mono ?_
  rintro e w3 ⟨rfl, rfl⟩
  go_wp2_with fail
  go_ret
  exact ⟨rfl, _, HG.out⟩

end Go.Proofs.Ytaclegafgkbmaaa
