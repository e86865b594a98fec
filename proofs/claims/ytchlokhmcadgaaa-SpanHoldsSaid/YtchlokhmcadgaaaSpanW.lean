/-
  Layer 6: Right, Single, Full, single, Has of both; min and max of a list of spans. Conditions: those of each theorem.
-/
import Derived.Test.YtchlokhmcadgaaaRows
import Derived.Test.YtchlokhmcadgaaaGrow
import Derived.Test.YtchlokhmcadgaaaOpenR
import Derived.LoopTactic
import Derived.BigRegion
import Derived.BigQuiet
import Derived.Deep.RegionWith
import Derived.Deep.DeepCutAuto
import Derived.Deep.RegionHeld3
namespace Go.Proofs.Ytchlokhmcadgaaa
open Go.RowKit

structure SpanV where
  lo : Int
  hi : Int
def sp0 : SpanV := ⟨0, 0⟩
def spc (a : SpanV) : List Value := [.int .u64 a.lo, .int .u64 a.hi]
def sps (l : List SpanV) : List Value := l.flatMap spc
/-- a span as a value -/
def spVal (lo hi : Int) : Value := .agg #[.int .u64 lo, .int .u64 hi]
def withinB (al ah bl bh : Int) : Bool := decide (al ≤ ah ∧ bl ≤ al ∧ ah ≤ bh)
def hasB (lo hi x : Int) : Bool := decide (lo ≤ x ∧ x ≤ hi)

set_option maxRecDepth 100000 in
set_option maxHeartbeats 1000000 in
theorem right_any (w : World) (lo hi : Int) :
    Calls Try.prog 15 #[spVal lo hi] w fun e w' => e = .returned (.bool (decide (lo ≤ hi))) ∧ Below w.heap.size w w' := by
  unfold spVal
  have HB := Lib.hid (below_alloc (Below.refl w.heap.size w) (.cells #[.int .u64 lo, .int .u64 hi] 26))
  by_cases h : lo ≤ hi
  · have h2 : ¬ hi < lo := by omega
    rw [decide_eq_true h]
    go_enter Try.func15, Try.ntmps15
    go_wp2_with fail
    go_ret
    exact ⟨by simp [*], HB.out⟩
  · have h2 : hi < lo := by omega
    rw [decide_eq_false h]
    go_enter Try.func15, Try.ntmps15
    go_wp2_with fail
    go_ret
    exact ⟨by simp [*], HB.out⟩

set_option maxRecDepth 100000 in
set_option maxHeartbeats 1000000 in
theorem rright_any (w : World) (lo hi : Int) :
    Calls Try.prog 17 #[spVal lo hi] w fun e w' => e = .returned (.bool (decide (lo ≤ hi))) ∧ Below w.heap.size w w' := by
  unfold spVal
  have HB := Lib.hid (below_alloc (Below.refl w.heap.size w) (.cells #[.int .u64 lo, .int .u64 hi] 26))
  by_cases h : lo ≤ hi
  · have h2 : ¬ hi < lo := by omega
    rw [decide_eq_true h]
    go_enter Try.func17, Try.ntmps17
    go_wp2_with fail
    go_ret
    exact ⟨by simp [*], HB.out⟩
  · have h2 : hi < lo := by omega
    rw [decide_eq_false h]
    go_enter Try.func17, Try.ntmps17
    go_wp2_with fail
    go_ret
    exact ⟨by simp [*], HB.out⟩

set_option maxRecDepth 100000 in
set_option maxHeartbeats 2000000 in
theorem within_any (w : World) (al ah bl bh : Int) :
    Calls Try.prog 16 #[spVal al ah, spVal bl bh] w fun e w' => e = .returned (.bool (withinB al ah bl bh)) ∧ Below w.heap.size w w' := by
  obtain ⟨V, hV⟩ : ∃ V, withinB al ah bl bh = V := ⟨_, rfl⟩
  rw [hV]
  have HV := Lib.hid hV
  clear hV
  have HRA := Lib.hid (fun w => right_any w al ah)
  unfold spVal at HRA ⊢
  have B1 := Lib.hid (below_alloc (below_alloc (Below.refl w.heap.size w) (.cells #[.int .u64 al, .int .u64 ah] 26)) (.cells #[.int .u64 bl, .int .u64 bh] 26))
  have OA := Lib.hid ((Ob.fresh w 26 [.int .u64 al, .int .u64 ah]).alloc (.cells #[.int .u64 bl, .int .u64 bh] 26))
  have OB : Hid (Ob ((w.alloc (.cells #[.int .u64 al, .int .u64 ah] 26)).alloc (.cells #[.int .u64 bl, .int .u64 bh] 26)) (w.heap.size + 1) 26 [.int .u64 bl, .int .u64 bh]) := Lib.hid (by
    have h := Ob.fresh (w.alloc (.cells #[.int .u64 al, .int .u64 ah] 26)) 26 [.int .u64 bl, .int .u64 bh]
    simpa using h)
  go_enter Try.func16, Try.ntmps16
  go_upto_region 1 with fail
  generalize (w.alloc (.cells #[.int .u64 al, .int .u64 ah] 26)).alloc (.cells #[.int .u64 bl, .int .u64 bh] 26) = w1 at B1 OA OB ⊢
  have a0 : w1.cell? ⟨w.heap.size, 0, none⟩ = some (.int .u64 al) := OA.out.cell 0
  have a1 : w1.cell? ⟨w.heap.size, 1, none⟩ = some (.int .u64 ah) := OA.out.cell 1
  go_wp2_with fail
  refine (HRA.out w1).mono ?_
  rintro e w2 ⟨rfl, b2⟩
  have B2 := Lib.hid (B1.out.trans (b2.mono B1.out.size))
  have a0 : w2.cell? ⟨w.heap.size, 0, none⟩ = some (.int .u64 al) := (OA.out.below b2 OA.out.lt).cell 0
  have a1 : w2.cell? ⟨w.heap.size, 1, none⟩ = some (.int .u64 ah) := (OA.out.below b2 OA.out.lt).cell 1
  have c0 : w2.cell? ⟨w.heap.size + 1, 0, none⟩ = some (.int .u64 bl) := (OB.out.below b2 OB.out.lt).cell 0
  have c1 : w2.cell? ⟨w.heap.size + 1, 1, none⟩ = some (.int .u64 bh) := (OB.out.below b2 OB.out.lt).cell 1
  clear b2 B1 OA OB
  by_cases h0 : al ≤ ah
  · have h0d : decide (al ≤ ah) = true := decide_eq_true h0
    rw [h0d]
    by_cases h1 : bl ≤ al
    · by_cases h2 : ah ≤ bh
      · have HR := Lib.hid (show V = true by rw [← HV.out]; unfold withinB; exact decide_eq_true ⟨h0, h1, h2⟩)
        go_wp2_with fail
        go_ret
        exact ⟨by rw [HR.out]; simp [*], B2.out⟩
      · have HR := Lib.hid (show V = false by rw [← HV.out]; unfold withinB; exact decide_eq_false fun h => h2 h.2.2)
        go_wp2_with fail
        go_ret
        exact ⟨by rw [HR.out]; simp [*], B2.out⟩
    · have HR := Lib.hid (show V = false by rw [← HV.out]; unfold withinB; exact decide_eq_false fun h => h1 h.2.1)
      go_wp2_with fail
      go_ret
      exact ⟨by rw [HR.out]; simp [*], B2.out⟩
  · have h0d : decide (al ≤ ah) = false := decide_eq_false h0
    rw [h0d]
    have HR := Lib.hid (show V = false by rw [← HV.out]; unfold withinB; exact decide_eq_false fun h => h0 h.1)
    go_wp2_with fail
    go_ret
    exact ⟨by rw [HR.out]; rfl, B2.out⟩

set_option maxRecDepth 100000 in
set_option maxHeartbeats 2000000 in
theorem rhas_any (w : World) (lo hi x : Int) :
    Calls Try.prog 21 #[spVal lo hi, .int .u64 x] w fun e w' => e = .returned (.bool (decide (lo ≤ hi ∧ lo ≤ x ∧ x ≤ hi))) ∧ Below w.heap.size w w' := by
  obtain ⟨V, hV⟩ : ∃ V, decide (lo ≤ hi ∧ lo ≤ x ∧ x ≤ hi) = V := ⟨_, rfl⟩
  rw [hV]
  have HV := Lib.hid hV
  clear hV
  have HRA := Lib.hid (fun w => rright_any w lo hi)
  unfold spVal at HRA ⊢
  have B1 := Lib.hid (below_alloc (Below.refl w.heap.size w) (.cells #[.int .u64 lo, .int .u64 hi] 26))
  have OA := Lib.hid (Ob.fresh w 26 [.int .u64 lo, .int .u64 hi])
  go_enter Try.func21, Try.ntmps21
  go_upto_region 1 with fail
  generalize w.alloc (.cells #[.int .u64 lo, .int .u64 hi] 26) = w1 at B1 OA ⊢
  have a0 : w1.cell? ⟨w.heap.size, 0, none⟩ = some (.int .u64 lo) := OA.out.cell 0
  have a1 : w1.cell? ⟨w.heap.size, 1, none⟩ = some (.int .u64 hi) := OA.out.cell 1
  go_wp2_with fail
  refine (HRA.out w1).mono ?_
  rintro e w2 ⟨rfl, b2⟩
  have B2 := Lib.hid (B1.out.trans (b2.mono B1.out.size))
  have a0 : w2.cell? ⟨w.heap.size, 0, none⟩ = some (.int .u64 lo) := (OA.out.below b2 OA.out.lt).cell 0
  have a1 : w2.cell? ⟨w.heap.size, 1, none⟩ = some (.int .u64 hi) := (OA.out.below b2 OA.out.lt).cell 1
  clear b2 B1 OA
  by_cases h0 : lo ≤ hi
  · have h0d : decide (lo ≤ hi) = true := decide_eq_true h0
    rw [h0d]
    by_cases h1 : lo ≤ x
    · by_cases h2 : x ≤ hi
      · have HR := Lib.hid (show V = true by rw [← HV.out]; exact decide_eq_true ⟨h0, h1, h2⟩)
        go_wp2_with fail
        go_ret
        exact ⟨by rw [HR.out]; simp [*], B2.out⟩
      · have HR := Lib.hid (show V = false by rw [← HV.out]; exact decide_eq_false fun h => h2 h.2.2)
        go_wp2_with fail
        go_ret
        exact ⟨by rw [HR.out]; simp [*], B2.out⟩
    · have HR := Lib.hid (show V = false by rw [← HV.out]; exact decide_eq_false fun h => h1 h.2.1)
      go_wp2_with fail
      go_ret
      exact ⟨by rw [HR.out]; simp [*], B2.out⟩
  · have h0d : decide (lo ≤ hi) = false := decide_eq_false h0
    rw [h0d]
    have HR := Lib.hid (show V = false by rw [← HV.out]; exact decide_eq_false fun h => h0 h.1)
    go_wp2_with fail
    go_ret
    exact ⟨by rw [HR.out]; rfl, B2.out⟩

set_option maxRecDepth 100000 in
set_option maxHeartbeats 2000000 in
theorem rwithin_any (w : World) (al ah bl bh : Int) :
    Calls Try.prog 22 #[spVal al ah, spVal bl bh] w fun e w' => e = .returned (.bool (withinB al ah bl bh)) ∧ Below w.heap.size w w' := by
  obtain ⟨V, hV⟩ : ∃ V, withinB al ah bl bh = V := ⟨_, rfl⟩
  rw [hV]
  have HV := Lib.hid hV
  clear hV
  have HRA := Lib.hid (fun w => rright_any w al ah)
  have HRB := Lib.hid (fun w => rright_any w bl bh)
  have HHL := Lib.hid (fun w => rhas_any w bl bh al)
  have HHH := Lib.hid (fun w => rhas_any w bl bh ah)
  unfold spVal at HRA HRB HHL HHH ⊢
  have B1 := Lib.hid (below_alloc (below_alloc (Below.refl w.heap.size w) (.cells #[.int .u64 al, .int .u64 ah] 26)) (.cells #[.int .u64 bl, .int .u64 bh] 26))
  have OA1 := Lib.hid ((Ob.fresh w 26 [.int .u64 al, .int .u64 ah]).alloc (.cells #[.int .u64 bl, .int .u64 bh] 26))
  have OB1 : Hid (Ob ((w.alloc (.cells #[.int .u64 al, .int .u64 ah] 26)).alloc (.cells #[.int .u64 bl, .int .u64 bh] 26)) (w.heap.size + 1) 26 [.int .u64 bl, .int .u64 bh]) := Lib.hid (by
    have h := Ob.fresh (w.alloc (.cells #[.int .u64 al, .int .u64 ah] 26)) 26 [.int .u64 bl, .int .u64 bh]
    simpa using h)
  go_enter Try.func22, Try.ntmps22
  go_upto_region 1 with fail
  generalize (w.alloc (.cells #[.int .u64 al, .int .u64 ah] 26)).alloc (.cells #[.int .u64 bl, .int .u64 bh] 26) = w1 at B1 OA1 OB1 ⊢
  have a0 : w1.cell? ⟨w.heap.size, 0, none⟩ = some (.int .u64 al) := OA1.out.cell 0
  have a1 : w1.cell? ⟨w.heap.size, 1, none⟩ = some (.int .u64 ah) := OA1.out.cell 1
  have c0 : w1.cell? ⟨w.heap.size + 1, 0, none⟩ = some (.int .u64 bl) := OB1.out.cell 0
  have c1 : w1.cell? ⟨w.heap.size + 1, 1, none⟩ = some (.int .u64 bh) := OB1.out.cell 1
  go_wp2_with fail
  refine (HRA.out w1).mono ?_
  rintro e w2 ⟨rfl, b2⟩
  have B2 := Lib.hid (B1.out.trans (b2.mono B1.out.size))
  have OA2 := Lib.hid (OA1.out.below b2 OA1.out.lt)
  have OB2 := Lib.hid (OB1.out.below b2 OB1.out.lt)
  have a0 : w2.cell? ⟨w.heap.size, 0, none⟩ = some (.int .u64 al) := OA2.out.cell 0
  have a1 : w2.cell? ⟨w.heap.size, 1, none⟩ = some (.int .u64 ah) := OA2.out.cell 1
  have c0 : w2.cell? ⟨w.heap.size + 1, 0, none⟩ = some (.int .u64 bl) := OB2.out.cell 0
  have c1 : w2.cell? ⟨w.heap.size + 1, 1, none⟩ = some (.int .u64 bh) := OB2.out.cell 1
  clear b2 B1 OA1 OB1
  by_cases h0 : al ≤ ah
  · rw [show decide (al ≤ ah) = true from decide_eq_true h0]
    have H0 := Lib.hid h0
    clear h0
    go_wp2_with fail
    refine (HRB.out w2).mono ?_
    rintro e w3 ⟨rfl, b3⟩
    have B3 := Lib.hid (B2.out.trans (b3.mono B2.out.size))
    have OA3 := Lib.hid (OA2.out.below b3 OA2.out.lt)
    have OB3 := Lib.hid (OB2.out.below b3 OB2.out.lt)
    have a0 : w3.cell? ⟨w.heap.size, 0, none⟩ = some (.int .u64 al) := OA3.out.cell 0
    have a1 : w3.cell? ⟨w.heap.size, 1, none⟩ = some (.int .u64 ah) := OA3.out.cell 1
    have c0 : w3.cell? ⟨w.heap.size + 1, 0, none⟩ = some (.int .u64 bl) := OB3.out.cell 0
    have c1 : w3.cell? ⟨w.heap.size + 1, 1, none⟩ = some (.int .u64 bh) := OB3.out.cell 1
    clear b3 B2 OA2 OB2
    by_cases h1 : bl ≤ bh
    · rw [show decide (bl ≤ bh) = true from decide_eq_true h1]
      have H1 := Lib.hid h1
      clear h1
      go_wp2_with fail
      refine (HHL.out w3).mono ?_
      rintro e w4 ⟨rfl, b4⟩
      have B4 := Lib.hid (B3.out.trans (b4.mono B3.out.size))
      have OA4 := Lib.hid (OA3.out.below b4 OA3.out.lt)
      have OB4 := Lib.hid (OB3.out.below b4 OB3.out.lt)
      have a0 : w4.cell? ⟨w.heap.size, 0, none⟩ = some (.int .u64 al) := OA4.out.cell 0
      have a1 : w4.cell? ⟨w.heap.size, 1, none⟩ = some (.int .u64 ah) := OA4.out.cell 1
      have c0 : w4.cell? ⟨w.heap.size + 1, 0, none⟩ = some (.int .u64 bl) := OB4.out.cell 0
      have c1 : w4.cell? ⟨w.heap.size + 1, 1, none⟩ = some (.int .u64 bh) := OB4.out.cell 1
      clear b4 B3 OA3 OB3
      by_cases h2 : bl ≤ bh ∧ bl ≤ al ∧ al ≤ bh
      · rw [show decide (bl ≤ bh ∧ bl ≤ al ∧ al ≤ bh) = true from decide_eq_true h2]
        have H2 := Lib.hid h2
        clear h2
        go_wp2_with fail
        refine (HHH.out w4).mono ?_
        rintro e w5 ⟨rfl, b5⟩
        have B5 := Lib.hid (B4.out.trans (b5.mono B4.out.size))
        have OA5 := Lib.hid (OA4.out.below b5 OA4.out.lt)
        have OB5 := Lib.hid (OB4.out.below b5 OB4.out.lt)
        have a0 : w5.cell? ⟨w.heap.size, 0, none⟩ = some (.int .u64 al) := OA5.out.cell 0
        have a1 : w5.cell? ⟨w.heap.size, 1, none⟩ = some (.int .u64 ah) := OA5.out.cell 1
        have c0 : w5.cell? ⟨w.heap.size + 1, 0, none⟩ = some (.int .u64 bl) := OB5.out.cell 0
        have c1 : w5.cell? ⟨w.heap.size + 1, 1, none⟩ = some (.int .u64 bh) := OB5.out.cell 1
        clear b5 B4 OA4 OB4
        by_cases h3 : bl ≤ bh ∧ bl ≤ ah ∧ ah ≤ bh
        · rw [show decide (bl ≤ bh ∧ bl ≤ ah ∧ ah ≤ bh) = true from decide_eq_true h3]
          have HR := Lib.hid (show V = true by rw [← HV.out]; unfold withinB; exact decide_eq_true ⟨H0.out, H2.out.2.1, h3.2.2⟩)
          clear h3
          go_wp2_with fail
          go_ret
          exact ⟨by rw [HR.out]; rfl, B5.out⟩
        · rw [show decide (bl ≤ bh ∧ bl ≤ ah ∧ ah ≤ bh) = false from decide_eq_false h3]
          have HR := Lib.hid (show V = false by rw [← HV.out]; unfold withinB; exact decide_eq_false fun h => h3 ⟨H1.out, by omega, h.2.2⟩)
          clear h3
          go_wp2_with fail
          go_ret
          exact ⟨by rw [HR.out]; rfl, B5.out⟩
      · rw [show decide (bl ≤ bh ∧ bl ≤ al ∧ al ≤ bh) = false from decide_eq_false h2]
        have HR := Lib.hid (show V = false by rw [← HV.out]; unfold withinB; exact decide_eq_false fun h => h2 ⟨H1.out, h.2.1, by omega⟩)
        clear h2
        go_wp2_with fail
        go_ret
        exact ⟨by rw [HR.out]; rfl, B4.out⟩
    · rw [show decide (bl ≤ bh) = false from decide_eq_false h1]
      have HR := Lib.hid (show V = false by rw [← HV.out]; unfold withinB; exact decide_eq_false fun h => h1 (by have := H0.out; omega))
      clear h1
      go_wp2_with fail
      go_ret
      exact ⟨by rw [HR.out]; rfl, B3.out⟩
  · rw [show decide (al ≤ ah) = false from decide_eq_false h0]
    have HR := Lib.hid (show V = false by rw [← HV.out]; unfold withinB; exact decide_eq_false fun h => h0 h.1)
    clear h0
    go_wp2_with fail
    go_ret
    exact ⟨by rw [HR.out]; rfl, B2.out⟩


set_option maxRecDepth 100000 in
set_option maxHeartbeats 1000000 in
theorem has_any (w : World) (lo hi x : Int) :
    Calls Try.prog 20 #[spVal lo hi, .int .u64 x] w fun e w' => e = .returned (.bool (decide (lo ≤ hi ∧ lo ≤ x ∧ x ≤ hi))) ∧ Below w.heap.size w w' := by
  obtain ⟨V, hV⟩ : ∃ V, decide (lo ≤ hi ∧ lo ≤ x ∧ x ≤ hi) = V := ⟨_, rfl⟩
  rw [hV]
  have HV := Lib.hid hV
  clear hV
  unfold spVal
  have HB := Lib.hid (below_alloc (Below.refl w.heap.size w) (.cells #[.int .u64 lo, .int .u64 hi] 26))
  by_cases h1 : lo ≤ x
  · by_cases h2 : x ≤ hi
    · have HR := Lib.hid (show V = true by rw [← HV.out]; exact decide_eq_true ⟨by omega, h1, h2⟩)
      go_enter Try.func20, Try.ntmps20
      go_wp2_with fail
      go_ret
      exact ⟨by rw [HR.out]; simp [*], HB.out⟩
    · have HR := Lib.hid (show V = false by rw [← HV.out]; exact decide_eq_false fun h => h2 h.2.2)
      go_enter Try.func20, Try.ntmps20
      go_wp2_with fail
      go_ret
      exact ⟨by rw [HR.out]; simp [*], HB.out⟩
  · have HR := Lib.hid (show V = false by rw [← HV.out]; exact decide_eq_false fun h => h1 h.2.1)
    go_enter Try.func20, Try.ntmps20
    go_wp2_with fail
    go_ret
    exact ⟨by rw [HR.out]; simp [*], HB.out⟩

set_option maxHeartbeats 1000000 in
theorem isone_any (w : World) (lo hi : Int) :
    Calls Try.prog 27 #[spVal lo hi] w fun e w' => e = .returned (.bool (lo == hi)) ∧ Below w.heap.size w w' := by
  unfold spVal
  have HB := Lib.hid (below_alloc (Below.refl w.heap.size w) (.cells #[.int .u64 lo, .int .u64 hi] 26))
  go_enter Try.func27, Try.ntmps27
  go_wp2_with fail
  go_ret
  exact ⟨rfl, HB.out⟩

set_option maxRecDepth 100000 in
set_option maxHeartbeats 1000000 in
theorem single_any (w : World) (n : Int) :
    Calls Try.prog 18 #[.int .u64 n] w fun e w' => e = .returned (spVal n n) ∧ Below w.heap.size w w' := by
  have HO := Lib.hid (Ob.fresh w 26 [.int .u64 n, .int .u64 n])
  have HB := Lib.hid (below_alloc (Below.refl w.heap.size w) (.cells #[.int .u64 n, .int .u64 n] 26))
  go_enter Try.func18, Try.ntmps18
  go_wp2_with fail
  generalize w.alloc (.cells #[.int .u64 n, .int .u64 n] 26) = w2 at HO HB ⊢
  have s0 : w2.cell? ⟨w.heap.size, 0, none⟩ = some (.int .u64 n) := HO.out.cell 0
  have s1 : w2.cell? ⟨w.heap.size, 1, none⟩ = some (.int .u64 n) := HO.out.cell 1
  exact bodyPost_ret (v := spVal n n) (by simp [results, Try.results18, go_sem, spVal, s0, s1]) rfl ⟨rfl, HB.out⟩

set_option maxRecDepth 100000 in
set_option maxHeartbeats 1000000 in
theorem full_any (w : World)  :
    Calls Try.prog 19 #[] w fun e w' => e = .returned (spVal 0 18446744073709551615) ∧ Below w.heap.size w w' := by
  have HO := Lib.hid (Ob.fresh w 26 [.int .u64 0, .int .u64 18446744073709551615])
  have HB := Lib.hid (below_alloc (Below.refl w.heap.size w) (.cells #[.int .u64 0, .int .u64 18446744073709551615] 26))
  go_enter Try.func19, Try.ntmps19
  go_wp2_with fail
  generalize w.alloc (.cells #[.int .u64 0, .int .u64 18446744073709551615] 26) = w2 at HO HB ⊢
  have s0 : w2.cell? ⟨w.heap.size, 0, none⟩ = some (.int .u64 0) := HO.out.cell 0
  have s1 : w2.cell? ⟨w.heap.size, 1, none⟩ = some (.int .u64 18446744073709551615) := HO.out.cell 1
  exact bodyPost_ret (v := spVal 0 18446744073709551615) (by simp [results, Try.results19, go_sem, spVal, s0, s1]) rfl ⟨rfl, HB.out⟩

end Go.Proofs.Ytchlokhmcadgaaa
