/-
  The walk of the law SpanAsks. Conditions: none.
-/
import Derived.Test.YtchlokhmcadgaaaSpanM
namespace Go.Proofs.Ytchlokhmcadgaaa
open Go.RowKit

set_option maxRecDepth 100000 in
set_option maxHeartbeats 8000000 in
theorem asks_walk (w : World) (al ah bl bh n : Int) :
    Calls Try.prog 6 #[spVal al ah, spVal bl bh, .int .u64 n] w fun e w' => e = .returned (.bool true) ∧ Below w.heap.size w w' := by
  have H0 := Lib.hid (fun w => right_any w al ah)
  have H1 := Lib.hid (fun w => rright_any w al ah)
  have H2 := Lib.hid (fun w => single_any w n)
  have H3 := Lib.hid (fun w => full_any w)
  have H4 := Lib.hid (fun w => has_any w al ah n)
  have H5 := Lib.hid (fun w => rhas_any w al ah n)
  have H6 := Lib.hid (fun w => within_any w al ah bl bh)
  have H7 := Lib.hid (fun w => rwithin_any w al ah bl bh)
  have H8 := Lib.hid (fun w => within_any w bl bh bl bh)
  have H9 := Lib.hid (fun w => rright_any w bl bh)
  obtain ⟨v0, hv0⟩ : ∃ b, decide (al ≤ ah) = b := ⟨_, rfl⟩
  obtain ⟨v1, hv1⟩ : ∃ b, decide (al ≤ ah ∧ al ≤ n ∧ n ≤ ah) = b := ⟨_, rfl⟩
  obtain ⟨v2, hv2⟩ : ∃ b, withinB al ah bl bh = b := ⟨_, rfl⟩
  obtain ⟨v3, hv3⟩ : ∃ b, decide (bl ≤ bh) = b := ⟨_, rfl⟩
  have hv4 : withinB bl bh bl bh = v3 := by rw [← hv3]; unfold withinB; exact decide_eq_decide.2 ⟨fun h => h.1, fun h => ⟨h, Int.le_refl _, Int.le_refl _⟩⟩
  rw [hv0] at H0 H1
  rw [hv1] at H4 H5
  rw [hv2] at H6 H7
  rw [hv4] at H8
  rw [hv3] at H9
  clear hv0 hv1 hv2 hv3 hv4
  unfold spVal at H0 H1 H2 H3 H4 H5 H6 H7 H8 H9 ⊢
  have B1 := Lib.hid (below_alloc (below_alloc (Below.refl w.heap.size w) (.cells #[.int .u64 al, .int .u64 ah] 26)) (.cells #[.int .u64 bl, .int .u64 bh] 26))
  have OA1 := Lib.hid ((Ob.fresh w 26 [.int .u64 al, .int .u64 ah]).alloc (.cells #[.int .u64 bl, .int .u64 bh] 26))
  have OB1 : Hid (Ob ((w.alloc (.cells #[.int .u64 al, .int .u64 ah] 26)).alloc (.cells #[.int .u64 bl, .int .u64 bh] 26)) (w.heap.size + 1) 26 [.int .u64 bl, .int .u64 bh]) := Lib.hid (by
    have h := Ob.fresh (w.alloc (.cells #[.int .u64 al, .int .u64 ah] 26)) 26 [.int .u64 bl, .int .u64 bh]
    simpa using h)
  go_enter Try.func6, Try.ntmps6
  go_upto_region 1 with fail
  generalize (w.alloc (.cells #[.int .u64 al, .int .u64 ah] 26)).alloc (.cells #[.int .u64 bl, .int .u64 bh] 26) = w0 at B1 OA1 OB1 ⊢
  obtain ⟨q, hq⟩ : ∃ q, w.heap.size + 1 = q := ⟨_, rfl⟩
  rw [hq] at OB1 ⊢
  obtain ⟨p, hp⟩ : ∃ p, w.heap.size = p := ⟨_, rfl⟩
  rw [hp] at OA1 ⊢
  clear hp hq
  go_wp2_with fail
  refine (awake_any w0).mono ?_
  rintro e w1 ⟨rfl, b1⟩
  have BB := Lib.hid (B1.out.trans (b1.mono B1.out.size))
  have OA := Lib.hid (OA1.out.below b1 OA1.out.lt)
  have OB := Lib.hid (OB1.out.below b1 OB1.out.lt)
  clear b1 B1 OA1 OB1
  have c0 : w1.cell? ⟨p, 0, none⟩ = some (.int .u64 al) := OA.out.cell 0
  have c1 : w1.cell? ⟨p, 1, none⟩ = some (.int .u64 ah) := OA.out.cell 1
  have c2 : w1.cell? ⟨q, 0, none⟩ = some (.int .u64 bl) := OB.out.cell 0
  have c3 : w1.cell? ⟨q, 1, none⟩ = some (.int .u64 bh) := OB.out.cell 1
  go_wp2_with fail
  go_region_held3 (fun w' => w'.cell? ⟨p, 0, none⟩ = some (.int .u64 al) ∧ w'.cell? ⟨p, 1, none⟩ = some (.int .u64 ah) ∧ w'.cell? ⟨q, 0, none⟩ = some (.int .u64 bl) ∧ w'.cell? ⟨q, 1, none⟩ = some (.int .u64 bh)) (go_keep)
      (first
       | (go_at_call 17
          have hthere := BB9.out
          clear hthere
          refine (H9.out x9).mono ?_
          rintro e x10 ⟨rfl, b10⟩
          have BB10 := Lib.hid (BB9.out.trans (b10.mono BB9.out.size))
          have OA10 := Lib.hid (OA9.out.below b10 OA9.out.lt)
          have OB10 := Lib.hid (OB9.out.below b10 OB9.out.lt)
          have m0 : x10.cell? ⟨p, 0, none⟩ = some (.int .u64 al) := OA10.out.cell 0
          have m1 : x10.cell? ⟨p, 1, none⟩ = some (.int .u64 ah) := OA10.out.cell 1
          have m2 : x10.cell? ⟨q, 0, none⟩ = some (.int .u64 bl) := OB10.out.cell 0
          have m3 : x10.cell? ⟨q, 1, none⟩ = some (.int .u64 bh) := OB10.out.cell 1
          clear b10)
       | (go_at_call 16
          have hthere := BB8.out
          clear hthere
          refine (H8.out x8).mono ?_
          rintro e x9 ⟨rfl, b9⟩
          have BB9 := Lib.hid (BB8.out.trans (b9.mono BB8.out.size))
          have OA9 := Lib.hid (OA8.out.below b9 OA8.out.lt)
          have OB9 := Lib.hid (OB8.out.below b9 OB8.out.lt)
          have l0 : x9.cell? ⟨p, 0, none⟩ = some (.int .u64 al) := OA9.out.cell 0
          have l1 : x9.cell? ⟨p, 1, none⟩ = some (.int .u64 ah) := OA9.out.cell 1
          have l2 : x9.cell? ⟨q, 0, none⟩ = some (.int .u64 bl) := OB9.out.cell 0
          have l3 : x9.cell? ⟨q, 1, none⟩ = some (.int .u64 bh) := OB9.out.cell 1
          clear b9)
       | (go_at_call 15
          refine (H0.out w1.drew).mono ?_
          rintro e x1 ⟨rfl, b1⟩
          have BB1 := Lib.hid ((below_drewN BB.out 1).trans (b1.mono (below_drewN BB.out 1).size))
          have OA1 := Lib.hid (OA.out.drew.below b1 OA.out.drew.lt)
          have OB1 := Lib.hid (OB.out.drew.below b1 OB.out.drew.lt)
          have d0 : x1.cell? ⟨p, 0, none⟩ = some (.int .u64 al) := OA1.out.cell 0
          have d1 : x1.cell? ⟨p, 1, none⟩ = some (.int .u64 ah) := OA1.out.cell 1
          have d2 : x1.cell? ⟨q, 0, none⟩ = some (.int .u64 bl) := OB1.out.cell 0
          have d3 : x1.cell? ⟨q, 1, none⟩ = some (.int .u64 bh) := OB1.out.cell 1
          clear b1)
       | (go_at_call 17
          refine (H1.out x1).mono ?_
          rintro e x2 ⟨rfl, b2⟩
          have BB2 := Lib.hid (BB1.out.trans (b2.mono BB1.out.size))
          have OA2 := Lib.hid (OA1.out.below b2 OA1.out.lt)
          have OB2 := Lib.hid (OB1.out.below b2 OB1.out.lt)
          have e0 : x2.cell? ⟨p, 0, none⟩ = some (.int .u64 al) := OA2.out.cell 0
          have e1 : x2.cell? ⟨p, 1, none⟩ = some (.int .u64 ah) := OA2.out.cell 1
          have e2 : x2.cell? ⟨q, 0, none⟩ = some (.int .u64 bl) := OB2.out.cell 0
          have e3 : x2.cell? ⟨q, 1, none⟩ = some (.int .u64 bh) := OB2.out.cell 1
          clear b2)
       | (go_at_call 18
          refine (H2.out x2).mono ?_
          rintro e x3 ⟨rfl, b3⟩
          have BB3 := Lib.hid (BB2.out.trans (b3.mono BB2.out.size))
          have OA3 := Lib.hid (OA2.out.below b3 OA2.out.lt)
          have OB3 := Lib.hid (OB2.out.below b3 OB2.out.lt)
          have f0 : x3.cell? ⟨p, 0, none⟩ = some (.int .u64 al) := OA3.out.cell 0
          have f1 : x3.cell? ⟨p, 1, none⟩ = some (.int .u64 ah) := OA3.out.cell 1
          have f2 : x3.cell? ⟨q, 0, none⟩ = some (.int .u64 bl) := OB3.out.cell 0
          have f3 : x3.cell? ⟨q, 1, none⟩ = some (.int .u64 bh) := OB3.out.cell 1
          clear b3)
       | (go_at_call 19
          refine (H3.out x3).mono ?_
          rintro e x4 ⟨rfl, b4⟩
          have BB4 := Lib.hid (BB3.out.trans (b4.mono BB3.out.size))
          have OA4 := Lib.hid (OA3.out.below b4 OA3.out.lt)
          have OB4 := Lib.hid (OB3.out.below b4 OB3.out.lt)
          have g0 : x4.cell? ⟨p, 0, none⟩ = some (.int .u64 al) := OA4.out.cell 0
          have g1 : x4.cell? ⟨p, 1, none⟩ = some (.int .u64 ah) := OA4.out.cell 1
          have g2 : x4.cell? ⟨q, 0, none⟩ = some (.int .u64 bl) := OB4.out.cell 0
          have g3 : x4.cell? ⟨q, 1, none⟩ = some (.int .u64 bh) := OB4.out.cell 1
          clear b4)
       | (go_at_call 20
          refine (H4.out x4).mono ?_
          rintro e x5 ⟨rfl, b5⟩
          have BB5 := Lib.hid (BB4.out.trans (b5.mono BB4.out.size))
          have OA5 := Lib.hid (OA4.out.below b5 OA4.out.lt)
          have OB5 := Lib.hid (OB4.out.below b5 OB4.out.lt)
          have h0 : x5.cell? ⟨p, 0, none⟩ = some (.int .u64 al) := OA5.out.cell 0
          have h1 : x5.cell? ⟨p, 1, none⟩ = some (.int .u64 ah) := OA5.out.cell 1
          have h2 : x5.cell? ⟨q, 0, none⟩ = some (.int .u64 bl) := OB5.out.cell 0
          have h3 : x5.cell? ⟨q, 1, none⟩ = some (.int .u64 bh) := OB5.out.cell 1
          clear b5)
       | (go_at_call 21
          refine (H5.out x5).mono ?_
          rintro e x6 ⟨rfl, b6⟩
          have BB6 := Lib.hid (BB5.out.trans (b6.mono BB5.out.size))
          have OA6 := Lib.hid (OA5.out.below b6 OA5.out.lt)
          have OB6 := Lib.hid (OB5.out.below b6 OB5.out.lt)
          have i0 : x6.cell? ⟨p, 0, none⟩ = some (.int .u64 al) := OA6.out.cell 0
          have i1 : x6.cell? ⟨p, 1, none⟩ = some (.int .u64 ah) := OA6.out.cell 1
          have i2 : x6.cell? ⟨q, 0, none⟩ = some (.int .u64 bl) := OB6.out.cell 0
          have i3 : x6.cell? ⟨q, 1, none⟩ = some (.int .u64 bh) := OB6.out.cell 1
          clear b6)
       | (go_at_call 16
          refine (H6.out x6).mono ?_
          rintro e x7 ⟨rfl, b7⟩
          have BB7 := Lib.hid (BB6.out.trans (b7.mono BB6.out.size))
          have OA7 := Lib.hid (OA6.out.below b7 OA6.out.lt)
          have OB7 := Lib.hid (OB6.out.below b7 OB6.out.lt)
          have j0 : x7.cell? ⟨p, 0, none⟩ = some (.int .u64 al) := OA7.out.cell 0
          have j1 : x7.cell? ⟨p, 1, none⟩ = some (.int .u64 ah) := OA7.out.cell 1
          have j2 : x7.cell? ⟨q, 0, none⟩ = some (.int .u64 bl) := OB7.out.cell 0
          have j3 : x7.cell? ⟨q, 1, none⟩ = some (.int .u64 bh) := OB7.out.cell 1
          clear b7)
       | (go_at_call 22
          refine (H7.out x7).mono ?_
          rintro e x8 ⟨rfl, b8⟩
          have BB8 := Lib.hid (BB7.out.trans (b8.mono BB7.out.size))
          have OA8 := Lib.hid (OA7.out.below b8 OA7.out.lt)
          have OB8 := Lib.hid (OB7.out.below b8 OB7.out.lt)
          have k0 : x8.cell? ⟨p, 0, none⟩ = some (.int .u64 al) := OA8.out.cell 0
          have k1 : x8.cell? ⟨p, 1, none⟩ = some (.int .u64 ah) := OA8.out.cell 1
          have k2 : x8.cell? ⟨q, 0, none⟩ = some (.int .u64 bl) := OB8.out.cell 0
          have k3 : x8.cell? ⟨q, 1, none⟩ = some (.int .u64 bh) := OB8.out.cell 1
          clear b8))
  all_goals
    go_wp2_with fail
    go_ret
    exact ⟨rfl, BB10.out⟩

theorem span_cells {H : Type} {enc : TypeId × Value → H} {w : World} {base : Nat} {sp : Nat → Bool} {held : Bool} {fuel : Nat} {cs : List Value} {x : DataW H × List MemPlace}
    (h : DataW.trod enc Try.prog w base sp held fuel 26 cs = some x) : ∃ a, cs = spc a ∧ Good a := by
  obtain ⟨xs, n, rfl, hx, hl, hxl, hall⟩ := DataW.trod_struct Try.underlying26 h
  have h0 := hall 0 _ rfl
  have h1 := hall 1 _ rfl
  have hc : cs.length = 2 := hl.trans (by kernel_rfl)
  have hxl2 : xs.length = 2 := hxl
  clear hall hl hx
  match xs, hxl2 with
  | [x0, x1], _ =>
  match cs, hc with
  | [c0, c1], _ =>
  obtain ⟨n0, q0, _, w0⟩ := DataW.trod_int Try.underlying24 (x := x0) h0
  obtain ⟨n1, q1, _, w1⟩ := DataW.trod_int Try.underlying24 (x := x1) h1
  have g0 : [c0] = [.int .u64 n0] := q0
  have g1 : [c1] = [.int .u64 n1] := q1
  simp only [List.cons.injEq, and_true] at g0 g1
  subst g0 g1
  simp [Lit.wf, IntKind.min, IntKind.max, IntKind.signed, IntKind.bits] at w0 w1
  exact ⟨⟨n0, n1⟩, rfl, w0.1, w0.2, w1.1, w1.2⟩
/-- a span that came in -/
def RdSpan (_ : World) (v : Value) (a : SpanV) : Prop := v = spVal a.lo a.hi ∧ Good a
theorem open_span {H : Type} {enc : TypeId × Value → H} {w : World} {base b0 : Nat} {sp : Nat → Bool} {held : Bool} {fuel : Nat} {v : Value} {x : DataW H × List MemPlace}
    (hv : Value.okWide Try.prog w .any b0 26 v) (h : DataW.trod enc Try.prog w base sp held fuel 26 v.cells.toList = some x) : ∃ a, RdSpan w v a := by
  obtain ⟨cs, rfl, hcs⟩ := Go.WideShapes.okWide_struct Try.underlying26 hv
  obtain ⟨a, ha, hg⟩ := span_cells h
  refine ⟨a, ?_, hg⟩
  unfold spVal
  congr 1
  exact Array.ext' ha

theorem asks_law (w : World) (a : SpanV) (va : Value) (ha : RdSpan w va a) (b : SpanV) (vb : Value) (hb : RdSpan w vb b) (u : BitVec 64) :
    Calls Try.prog 6 #[va, vb, .int .u64 (uv u)] w fun e w' => e = .returned (.bool true) ∧ Below w.heap.size w w' := by
  obtain ⟨rfl, _⟩ := ha
  obtain ⟨rfl, _⟩ := hb
  exact asks_walk w a.lo a.hi b.lo b.hi (uv u)

end Go.Proofs.Ytchlokhmcadgaaa
