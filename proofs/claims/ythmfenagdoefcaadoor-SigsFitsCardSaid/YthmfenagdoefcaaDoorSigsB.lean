/-
  Layer 8: the reference's Args; alike on equal lists; Within of both. Conditions: those of each theorem.
-/
import Derived.Test.YthmfenagdoefcaaDoorSigsA
namespace Go.Proofs.YthmfenagdoefcaaDoor
open Go.RowKit

theorem own_fresh {w0 w : World} (hB : Below w0.heap.size w0 w) (e : TypeId) (size n : Nat) (cs : List Value) (hl : cs.length = n * size) (hn : n ≤ maxLen) : (w.alloc (.cells cs.toArray e)).ownsRow w0.heap.size e size (.slice (some ⟨w.heap.size, 0, none⟩) n n) n cs :=
  ⟨hl, .inr ⟨w.heap.size, n, cs.toArray, rfl, hB.size, heap_alloc_new w _, Nat.le_refl _, hn, by simp [hl], by rw [← hl]; simp⟩⟩
theorem argsL_0 : argsL 0 = [⟨2, 0, 0, 0⟩, ⟨1, 0, 18446744073709551615, 0⟩] := rfl
theorem argsL_1 : argsL 1 = [⟨2, 0, 0, 0⟩, ⟨1, 0, 18446744073709551615, 0⟩] := rfl
theorem argsL_2 : argsL 2 = [⟨2, 0, 0, 0⟩, ⟨1, 0, 18446744073709551615, 0⟩, ⟨1, 0, 18446744073709551615, 0⟩] := rfl
theorem argsL_3 : argsL 3 = [⟨2, 0, 0, 0⟩, ⟨1, 0, 18446744073709551615, 0⟩] := rfl
theorem argsL_4 : argsL 4 = [⟨2, 0, 0, 0⟩, ⟨1, 0, 18446744073709551615, 0⟩, ⟨1, 0, 18446744073709551615, 0⟩] := rfl
theorem argsL_5 : argsL 5 = [⟨1, 0, 15, 0⟩] := rfl
theorem argsL_6 : argsL 6 = [⟨1, 0, 18446744073709551615, 0⟩] := rfl
theorem argsL_7 : argsL 7 = [] := rfl

set_option maxRecDepth 100000 in
set_option maxHeartbeats 4000000 in
theorem rargs_any (w : World) (h : Int) :
    Calls Tryd.prog 10 #[.int .i64 h] w fun e w' => ∃ v, e = .returned v ∧ w'.ownsRow w.heap.size 31 4 v (argsL (hI h)).length (tys (argsL (hI h))) ∧ Below w.heap.size w w' := by
  obtain ⟨Z, hZ⟩ : ∃ Z, argsL (hI h) = Z := ⟨_, rfl⟩
  rw [hZ]
  have HZ := Lib.hid hZ
  clear hZ
  rcases h_cases h with ⟨y, rfl, hy⟩ | hh
  · have HY := Lib.hid (hI_nat hy)
    rcases y_cases hy with rfl | rfl | rfl | rfl | rfl | rfl | rfl
    · have HZ2 := Lib.hid (show Z = [⟨2, 0, 0, 0⟩, ⟨1, 0, 18446744073709551615, 0⟩] by rw [← HZ.out, HY.out]; rfl)
      go_enter Tryd.func10, Tryd.ntmps10
      go_wp2_with fail
      refine (rnum_any w _).mono ?_
      rintro e w1 ⟨rfl, b1⟩
      have HB1 := Lib.hid b1
      clear b1
      unfold tyVal
      go_wp2_with fail
      go_ret
      exact ⟨_, rfl, by rw [HZ2.out]; exact own_fresh HB1.out 31 4 2 [.int .i64 2, .int .u64 0, .int .u64 0, .int .i64 0, .int .i64 1, .int .u64 0, .int .u64 18446744073709551615, .int .i64 0] rfl (by decide), below_alloc HB1.out _⟩
    · have HZ2 := Lib.hid (show Z = [⟨2, 0, 0, 0⟩, ⟨1, 0, 18446744073709551615, 0⟩] by rw [← HZ.out, HY.out]; rfl)
      go_enter Tryd.func10, Tryd.ntmps10
      go_wp2_with fail
      refine (rnum_any w _).mono ?_
      rintro e w1 ⟨rfl, b1⟩
      have HB1 := Lib.hid b1
      clear b1
      unfold tyVal
      go_wp2_with fail
      go_ret
      exact ⟨_, rfl, by rw [HZ2.out]; exact own_fresh HB1.out 31 4 2 [.int .i64 2, .int .u64 0, .int .u64 0, .int .i64 0, .int .i64 1, .int .u64 0, .int .u64 18446744073709551615, .int .i64 0] rfl (by decide), below_alloc HB1.out _⟩
    · have HZ2 := Lib.hid (show Z = [⟨2, 0, 0, 0⟩, ⟨1, 0, 18446744073709551615, 0⟩, ⟨1, 0, 18446744073709551615, 0⟩] by rw [← HZ.out, HY.out]; rfl)
      go_enter Tryd.func10, Tryd.ntmps10
      go_wp2_with fail
      refine (rnum_any w _).mono ?_
      rintro e w1 ⟨rfl, b1⟩
      have HB1 := Lib.hid b1
      clear b1
      unfold tyVal
      go_wp2_with fail
      refine (rnum_any w1 _).mono ?_
      rintro e w2 ⟨rfl, b2⟩
      have HB2 := Lib.hid (HB1.out.trans (b2.mono HB1.out.size))
      clear b2
      unfold tyVal
      go_wp2_with fail
      go_ret
      exact ⟨_, rfl, by rw [HZ2.out]; exact own_fresh HB2.out 31 4 3 [.int .i64 2, .int .u64 0, .int .u64 0, .int .i64 0, .int .i64 1, .int .u64 0, .int .u64 18446744073709551615, .int .i64 0, .int .i64 1, .int .u64 0, .int .u64 18446744073709551615, .int .i64 0] rfl (by decide), below_alloc HB2.out _⟩
    · have HZ2 := Lib.hid (show Z = [⟨2, 0, 0, 0⟩, ⟨1, 0, 18446744073709551615, 0⟩] by rw [← HZ.out, HY.out]; rfl)
      go_enter Tryd.func10, Tryd.ntmps10
      go_wp2_with fail
      refine (rnum_any w _).mono ?_
      rintro e w1 ⟨rfl, b1⟩
      have HB1 := Lib.hid b1
      clear b1
      unfold tyVal
      go_wp2_with fail
      go_ret
      exact ⟨_, rfl, by rw [HZ2.out]; exact own_fresh HB1.out 31 4 2 [.int .i64 2, .int .u64 0, .int .u64 0, .int .i64 0, .int .i64 1, .int .u64 0, .int .u64 18446744073709551615, .int .i64 0] rfl (by decide), below_alloc HB1.out _⟩
    · have HZ2 := Lib.hid (show Z = [⟨2, 0, 0, 0⟩, ⟨1, 0, 18446744073709551615, 0⟩, ⟨1, 0, 18446744073709551615, 0⟩] by rw [← HZ.out, HY.out]; rfl)
      go_enter Tryd.func10, Tryd.ntmps10
      go_wp2_with fail
      refine (rnum_any w _).mono ?_
      rintro e w1 ⟨rfl, b1⟩
      have HB1 := Lib.hid b1
      clear b1
      unfold tyVal
      go_wp2_with fail
      refine (rnum_any w1 _).mono ?_
      rintro e w2 ⟨rfl, b2⟩
      have HB2 := Lib.hid (HB1.out.trans (b2.mono HB1.out.size))
      clear b2
      unfold tyVal
      go_wp2_with fail
      go_ret
      exact ⟨_, rfl, by rw [HZ2.out]; exact own_fresh HB2.out 31 4 3 [.int .i64 2, .int .u64 0, .int .u64 0, .int .i64 0, .int .i64 1, .int .u64 0, .int .u64 18446744073709551615, .int .i64 0, .int .i64 1, .int .u64 0, .int .u64 18446744073709551615, .int .i64 0] rfl (by decide), below_alloc HB2.out _⟩
    · have HZ2 := Lib.hid (show Z = [⟨1, 0, 15, 0⟩] by rw [← HZ.out, HY.out]; rfl)
      go_enter Tryd.func10, Tryd.ntmps10
      go_wp2_with fail
      refine (rnum_any w _).mono ?_
      rintro e w1 ⟨rfl, b1⟩
      have HB1 := Lib.hid b1
      clear b1
      unfold tyVal
      go_wp2_with fail
      go_ret
      exact ⟨_, rfl, by rw [HZ2.out]; exact own_fresh HB1.out 31 4 1 [.int .i64 1, .int .u64 0, .int .u64 15, .int .i64 0] rfl (by decide), below_alloc HB1.out _⟩
    · have HZ2 := Lib.hid (show Z = [⟨1, 0, 18446744073709551615, 0⟩] by rw [← HZ.out, HY.out]; rfl)
      go_enter Tryd.func10, Tryd.ntmps10
      go_wp2_with fail
      refine (rnum_any w _).mono ?_
      rintro e w1 ⟨rfl, b1⟩
      have HB1 := Lib.hid b1
      clear b1
      unfold tyVal
      go_wp2_with fail
      go_ret
      exact ⟨_, rfl, by rw [HZ2.out]; exact own_fresh HB1.out 31 4 1 [.int .i64 1, .int .u64 0, .int .u64 18446744073709551615, .int .i64 0] rfl (by decide), below_alloc HB1.out _⟩
  · have hh2 : h < 0 ∨ 7 ≤ h := by omega
    have HZ2 := Lib.hid (show Z = [] by rw [← HZ.out, hI_out hh2]; rfl)
    obtain ⟨q0, q1, q2, q3, q4, q5, q6⟩ := eqs_out hh2
    clear hh hh2
    go_enter Tryd.func10, Tryd.ntmps10
    go_wp2_with fail
    go_ret
    exact ⟨_, rfl, by rw [HZ2.out]; exact World.ownsRow_nil _ _ _ _, Below.refl _ _⟩

/-- a list of types reads, at A -/
theorem tys_at {w : World} {A : Option Addr} {l : List TypeV} (h : Sl w A (tys l)) (hn : 0 < l.length) :
    ∃ b o, A = some ⟨b, o, none⟩ ∧ b < w.heap.size ∧ ∀ k, k < l.length → ∀ j, j < 4 → w.cell? ⟨b, o + k * 4 + j, none⟩ = some ((tyc (l.getD k ty0)).getD j undef) := by
  obtain ⟨b, o, e, hc⟩ := h (by rw [tys_length]; omega)
  rw [tys_length] at hc
  refine ⟨b, o, e, cell_lt (hc 0 (by omega)), fun k hk j hj => ?_⟩
  have h1 := hc (k * 4 + j) (by omega)
  rw [← Nat.add_assoc] at h1
  rw [h1, List.getD_eq_getElem?_getD, tys_get l k j hk hj, ← List.getD_eq_getElem?_getD]

set_option maxRecDepth 100000 in
set_option maxHeartbeats 4000000 in
theorem alike_eq (w : World) (l : List TypeV) (A B : Option Addr) (n c d : Nat) (hn : n = l.length) (hm : n ≤ 4611686018427387904) (ha : Sl w A (tys l)) (hb : Sl w B (tys l)) :
    Calls Tryd.prog 11 #[.slice A n c, .slice B n d] w fun e w' => e = .returned (.bool true) ∧ Below w.heap.size w w' := by
  have HN := Lib.hid hn
  have HA := Lib.hid ha
  have HB := Lib.hid hb
  clear hn ha hb
  go_enter Tryd.func11, Tryd.ntmps11
  go_wp2_with fail
  go_loopw [5] (fun i wr => ∃ k : Nat, k ≤ n ∧ i = .int .i64 k ∧ Below w.heap.size w wr) (fun i _ => n - (intOf i).toNat)
  case atStart => exact ⟨0, Nat.zero_le _, rfl, Below.refl _ _⟩
  case round =>
    obtain ⟨k, hk, rfl, hbl⟩ := hrel
    have BB := Lib.hid hbl
    clear hbl
    by_cases hlt : k < n
    · have g1 : (k : Int) < (n : Int) := by omega
      obtain ⟨b, o, rfl, hb1, hc1⟩ := tys_at HA.out (by have := HN.out; omega)
      obtain ⟨b', o', rfl, hb2, hc2⟩ := tys_at HB.out (by have := HN.out; omega)
      have hkl : k < l.length := by have := HN.out; omega
      have f0 : wr.cell? ⟨b, o + k * 4, none⟩ = some ((tyc (l.getD k ty0)).getD 0 undef) := (BB.out.cell hb1).trans (hc1 k hkl 0 (by omega))
      have e0 : wr.cell? ⟨b', o' + k * 4, none⟩ = some ((tyc (l.getD k ty0)).getD 0 undef) := (BB.out.cell hb2).trans (hc2 k hkl 0 (by omega))
      have f1 : wr.cell? ⟨b, o + k * 4 + 1, none⟩ = some ((tyc (l.getD k ty0)).getD 1 undef) := (BB.out.cell hb1).trans (hc1 k hkl 1 (by omega))
      have e1 : wr.cell? ⟨b', o' + k * 4 + 1, none⟩ = some ((tyc (l.getD k ty0)).getD 1 undef) := (BB.out.cell hb2).trans (hc2 k hkl 1 (by omega))
      have f2 : wr.cell? ⟨b, o + k * 4 + 2, none⟩ = some ((tyc (l.getD k ty0)).getD 2 undef) := (BB.out.cell hb1).trans (hc1 k hkl 2 (by omega))
      have e2 : wr.cell? ⟨b', o' + k * 4 + 2, none⟩ = some ((tyc (l.getD k ty0)).getD 2 undef) := (BB.out.cell hb2).trans (hc2 k hkl 2 (by omega))
      have f3 : wr.cell? ⟨b, o + k * 4 + 3, none⟩ = some ((tyc (l.getD k ty0)).getD 3 undef) := (BB.out.cell hb1).trans (hc1 k hkl 3 (by omega))
      have e3 : wr.cell? ⟨b', o' + k * 4 + 3, none⟩ = some ((tyc (l.getD k ty0)).getD 3 undef) := (BB.out.cell hb2).trans (hc2 k hkl 3 (by omega))
      clear hc1 hc2 hkl hb1 hb2
      generalize l.getD k ty0 = t at f0 f1 f2 f3 e0 e1 e2 e3
      obtain ⟨tk, tl, th, tm⟩ := t
      replace f0 : wr.cell? ⟨b, o + k * 4, none⟩ = some (.int .i64 tk) := f0
      replace e0 : wr.cell? ⟨b', o' + k * 4, none⟩ = some (.int .i64 tk) := e0
      replace f1 : wr.cell? ⟨b, o + k * 4 + 1, none⟩ = some (.int .u64 tl) := f1
      replace e1 : wr.cell? ⟨b', o' + k * 4 + 1, none⟩ = some (.int .u64 tl) := e1
      replace f2 : wr.cell? ⟨b, o + k * 4 + 2, none⟩ = some (.int .u64 th) := f2
      replace e2 : wr.cell? ⟨b', o' + k * 4 + 2, none⟩ = some (.int .u64 th) := e2
      replace f3 : wr.cell? ⟨b, o + k * 4 + 3, none⟩ = some (.int .i64 tm) := f3
      replace e3 : wr.cell? ⟨b', o' + k * 4 + 3, none⟩ = some (.int .i64 tm) := e3
      go_wp2_with fail
      go_quiet (fail)
      go_wp2_with fail
      go_roundw
      case rel => exact ⟨k + 1, by omega, by go_num, below_drewN BB.out _⟩
      case measure => simp [intOf]; omega
    · have g1 : ¬ (k : Int) < (n : Int) := by omega
      go_wp2_with fail
      go_ret
      exact ⟨rfl, BB.out⟩

/-- a span as a value -/
def spVal (lo hi : Int) : Value := .agg #[.int .u64 lo, .int .u64 hi]
def withinB (al ah bl bh : Int) : Bool := decide (al ≤ ah ∧ bl ≤ al ∧ ah ≤ bh)

set_option maxRecDepth 100000 in
set_option maxHeartbeats 1000000 in
theorem right_any (w : World) (lo hi : Int) :
    Calls Tryd.prog 29 #[spVal lo hi] w fun e w' => e = .returned (.bool (decide (lo ≤ hi))) ∧ Below w.heap.size w w' := by
  unfold spVal
  have HB := Lib.hid (below_alloc (Below.refl w.heap.size w) (.cells #[.int .u64 lo, .int .u64 hi] 29))
  by_cases h : lo ≤ hi
  · have h2 : ¬ hi < lo := by omega
    rw [decide_eq_true h]
    go_enter Tryd.func29, Tryd.ntmps29
    go_wp2_with fail
    go_ret
    exact ⟨by simp [*], HB.out⟩
  · have h2 : hi < lo := by omega
    rw [decide_eq_false h]
    go_enter Tryd.func29, Tryd.ntmps29
    go_wp2_with fail
    go_ret
    exact ⟨by simp [*], HB.out⟩

set_option maxRecDepth 100000 in
set_option maxHeartbeats 1000000 in
theorem rright_any (w : World) (lo hi : Int) :
    Calls Tryd.prog 30 #[spVal lo hi] w fun e w' => e = .returned (.bool (decide (lo ≤ hi))) ∧ Below w.heap.size w w' := by
  unfold spVal
  have HB := Lib.hid (below_alloc (Below.refl w.heap.size w) (.cells #[.int .u64 lo, .int .u64 hi] 29))
  by_cases h : lo ≤ hi
  · have h2 : ¬ hi < lo := by omega
    rw [decide_eq_true h]
    go_enter Tryd.func30, Tryd.ntmps30
    go_wp2_with fail
    go_ret
    exact ⟨by simp [*], HB.out⟩
  · have h2 : hi < lo := by omega
    rw [decide_eq_false h]
    go_enter Tryd.func30, Tryd.ntmps30
    go_wp2_with fail
    go_ret
    exact ⟨by simp [*], HB.out⟩

set_option maxRecDepth 100000 in
set_option maxHeartbeats 2000000 in
theorem within_any (w : World) (al ah bl bh : Int) :
    Calls Tryd.prog 27 #[spVal al ah, spVal bl bh] w fun e w' => e = .returned (.bool (withinB al ah bl bh)) ∧ Below w.heap.size w w' := by
  obtain ⟨V, hV⟩ : ∃ V, withinB al ah bl bh = V := ⟨_, rfl⟩
  rw [hV]
  have HV := Lib.hid hV
  clear hV
  have HRA := Lib.hid (fun w => right_any w al ah)
  unfold spVal at HRA ⊢
  have B1 := Lib.hid (below_alloc (below_alloc (Below.refl w.heap.size w) (.cells #[.int .u64 al, .int .u64 ah] 29)) (.cells #[.int .u64 bl, .int .u64 bh] 29))
  have OA := Lib.hid ((Ob.fresh w 29 [.int .u64 al, .int .u64 ah]).alloc (.cells #[.int .u64 bl, .int .u64 bh] 29))
  have OB : Hid (Ob ((w.alloc (.cells #[.int .u64 al, .int .u64 ah] 29)).alloc (.cells #[.int .u64 bl, .int .u64 bh] 29)) (w.heap.size + 1) 29 [.int .u64 bl, .int .u64 bh]) := Lib.hid (by
    have h := Ob.fresh (w.alloc (.cells #[.int .u64 al, .int .u64 ah] 29)) 29 [.int .u64 bl, .int .u64 bh]
    simpa using h)
  go_enter Tryd.func27, Tryd.ntmps27
  go_upto_region 1 with fail
  generalize (w.alloc (.cells #[.int .u64 al, .int .u64 ah] 29)).alloc (.cells #[.int .u64 bl, .int .u64 bh] 29) = w1 at B1 OA OB ⊢
  have a0 : w1.cell? ⟨w.heap.size, 0, none⟩ = some (.int .u64 al) := OA.out.cell 0
  have a1 : w1.cell? ⟨w.heap.size, 1, none⟩ = some (.int .u64 ah) := OA.out.cell 1
  go_wp2_with fail
  refine (HRA.out w1).mono ?_
  rintro e w2 ⟨rfl, b2⟩
  have B2 := Lib.hid (B1.out.trans (b2.mono B1.out.size))
  have a0 : w2.cell? ⟨w.heap.size, 0, none⟩ = some (.int .u64 al) := (OA.out.below b2 OA.out.lt).cell 0
  have a1 : w2.cell? ⟨w.heap.size, 1, none⟩ = some (.int .u64 ah) := (OA.out.below b2 OA.out.lt).cell 1
  have c0 : w2.cell? ⟨w.heap.size + 1, 0, none⟩ = some (.int .u64 bl) := (OB.out.below b2 OB.out.lt).cell 0
  have c1 : w2.cell? ⟨w.heap.size + 1, 1, none⟩ = some (.int .u64 bh) := (OB.out.below b2 OB.out.lt).cell 1
  clear b2 B1 OA OB
  by_cases h0 : al ≤ ah
  · have h0d : decide (al ≤ ah) = true := decide_eq_true h0
    rw [h0d]
    by_cases h1 : bl ≤ al
    · by_cases h2 : ah ≤ bh
      · have HR := Lib.hid (show V = true by rw [← HV.out]; unfold withinB; exact decide_eq_true ⟨h0, h1, h2⟩)
        go_wp2_with fail
        go_ret
        exact ⟨by rw [HR.out]; simp [*], B2.out⟩
      · have HR := Lib.hid (show V = false by rw [← HV.out]; unfold withinB; exact decide_eq_false fun h => h2 h.2.2)
        go_wp2_with fail
        go_ret
        exact ⟨by rw [HR.out]; simp [*], B2.out⟩
    · have HR := Lib.hid (show V = false by rw [← HV.out]; unfold withinB; exact decide_eq_false fun h => h1 h.2.1)
      go_wp2_with fail
      go_ret
      exact ⟨by rw [HR.out]; simp [*], B2.out⟩
  · have h0d : decide (al ≤ ah) = false := decide_eq_false h0
    rw [h0d]
    have HR := Lib.hid (show V = false by rw [← HV.out]; unfold withinB; exact decide_eq_false fun h => h0 h.1)
    go_wp2_with fail
    go_ret
    exact ⟨by rw [HR.out]; rfl, B2.out⟩

end Go.Proofs.YthmfenagdoefcaaDoor
