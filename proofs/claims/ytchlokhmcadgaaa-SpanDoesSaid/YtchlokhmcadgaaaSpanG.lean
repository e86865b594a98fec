/-
  The walk of the law SpanDoes. Conditions: none.
-/
import Derived.Test.YtchlokhmcadgaaaSpanE
import Derived.Test.YtchlokhmcadgaaaSpanF
import Derived.Test.YtchlokhmcadgaaaSpanN
namespace Go.Proofs.Ytchlokhmcadgaaa
open Go.RowKit

set_option maxRecDepth 100000 in
set_option maxHeartbeats 8000000 in
theorem does_walk (w : World) (op : Int) (xl xh yl yh : BitVec 64) :
    Calls Try.prog 4 #[.int .i64 op, spVal (uv xl) (uv xh), spVal (uv yl) (uv yh)] w fun e w' => e = .returned (.bool true) ∧ Below w.heap.size w w' := by
  have HP : Hid (∀ k : Int, ∃ (i1 i2 : Int) (ok : Bool), (∀ w, Calls Try.prog 13 #[.int .i64 k, spVal (uv xl) (uv xh), spVal (uv yl) (uv yh)] w fun e w' => e = .returned (.tuple #[spVal i1 i2, .bool ok]) ∧ Below w.heap.size w w') ∧ (∀ w, Calls Try.prog 14 #[.int .i64 k, spVal (uv xl) (uv xh), spVal (uv yl) (uv yh)] w fun e w' => e = .returned (.tuple #[spVal i1 i2, .bool ok]) ∧ Below w.heap.size w w')) :=
    Lib.hid fun k => ⟨_, _, _, fun w => sdo_any k w xl xh yl yh, fun w => rsdo_any k w xl xh yl yh⟩
  generalize uv xl = al at HP ⊢
  generalize uv xh = ah at HP ⊢
  generalize uv yl = bl at HP ⊢
  generalize uv yh = bh at HP ⊢
  clear xl xh yl yh
  unfold spVal at HP ⊢
  have B1 := Lib.hid (below_alloc (below_alloc (Below.refl w.heap.size w) (.cells #[.int .u64 al, .int .u64 ah] 26)) (.cells #[.int .u64 bl, .int .u64 bh] 26))
  have OA1 := Lib.hid ((Ob.fresh w 26 [.int .u64 al, .int .u64 ah]).alloc (.cells #[.int .u64 bl, .int .u64 bh] 26))
  have OB1 : Hid (Ob ((w.alloc (.cells #[.int .u64 al, .int .u64 ah] 26)).alloc (.cells #[.int .u64 bl, .int .u64 bh] 26)) (w.heap.size + 1) 26 [.int .u64 bl, .int .u64 bh]) := Lib.hid (by
    have h := Ob.fresh (w.alloc (.cells #[.int .u64 al, .int .u64 ah] 26)) 26 [.int .u64 bl, .int .u64 bh]
    simpa using h)
  go_enter Try.func4, Try.ntmps4
  go_upto_region 1 with fail
  generalize (w.alloc (.cells #[.int .u64 al, .int .u64 ah] 26)).alloc (.cells #[.int .u64 bl, .int .u64 bh] 26) = w0 at B1 OA1 OB1 ⊢
  obtain ⟨q, hq⟩ : ∃ q, w.heap.size + 1 = q := ⟨_, rfl⟩
  rw [hq] at OB1 ⊢
  obtain ⟨p, hp⟩ : ∃ p, w.heap.size = p := ⟨_, rfl⟩
  rw [hp] at OA1 ⊢
  clear hp hq
  go_wp2_with fail
  refine (awake_any w0).mono ?_
  rintro e w1 ⟨rfl, b1⟩
  have BB := Lib.hid (B1.out.trans (b1.mono B1.out.size))
  have OA := Lib.hid (OA1.out.below b1 OA1.out.lt)
  have OB := Lib.hid (OB1.out.below b1 OB1.out.lt)
  clear b1 B1 OA1 OB1
  go_wp2_with fail
  go_loopw [7] (fun i wr => ∃ k : Nat, k ≤ 12 ∧ i = .int .i64 k ∧ Below w.heap.size w wr ∧ Ob wr p 26 [.int .u64 al, .int .u64 ah] ∧ Ob wr q 26 [.int .u64 bl, .int .u64 bh]) (fun i _ => 12 - (intOf i).toNat)
  case atStart => exact ⟨0, Nat.zero_le _, rfl, BB.out, OA.out, OB.out⟩
  case round =>
    obtain ⟨k, hk, rfl, hb, ha2, hb2⟩ := hrel
    have C := Lib.hid hb
    have A := Lib.hid ha2
    have D := Lib.hid hb2
    clear hb ha2 hb2 BB OA OB
    have c0 : wr.cell? ⟨p, 0, none⟩ = some (.int .u64 al) := A.out.cell 0
    have c1 : wr.cell? ⟨p, 1, none⟩ = some (.int .u64 ah) := A.out.cell 1
    have c2 : wr.cell? ⟨q, 0, none⟩ = some (.int .u64 bl) := D.out.cell 0
    have c3 : wr.cell? ⟨q, 1, none⟩ = some (.int .u64 bh) := D.out.cell 1
    by_cases hlt : k < 12
    · have g1 : (k : Int) < 12 := by omega
      obtain ⟨i1, i2, ok, h1, h2⟩ := HP.out k
      have H1 := Lib.hid h1
      have H2 := Lib.hid h2
      clear h1 h2
      go_wp2_with fail
      refine (H1.out wr).mono ?_
      rintro e wu ⟨rfl, bu⟩
      have C1 := Lib.hid (below_alloc (C.out.trans (bu.mono C.out.size)) (.cells #[.int .u64 i1, .int .u64 i2] 26))
      have A1 := Lib.hid ((A.out.below bu A.out.lt).alloc (.cells #[.int .u64 i1, .int .u64 i2] 26))
      have D1 := Lib.hid ((D.out.below bu D.out.lt).alloc (.cells #[.int .u64 i1, .int .u64 i2] 26))
      have E1 := Lib.hid (Ob.fresh wu 26 [.int .u64 i1, .int .u64 i2])
      clear bu c0 c1 c2 c3 A D C H1
      go_upto_region 7 with fail
      generalize wu.alloc (.cells #[.int .u64 i1, .int .u64 i2] 26) = wv at C1 A1 D1 E1 ⊢
      generalize wu.heap.size = p1 at E1 ⊢
      have c0 : wv.cell? ⟨p, 0, none⟩ = some (.int .u64 al) := A1.out.cell 0
      have c1 : wv.cell? ⟨p, 1, none⟩ = some (.int .u64 ah) := A1.out.cell 1
      have c2 : wv.cell? ⟨q, 0, none⟩ = some (.int .u64 bl) := D1.out.cell 0
      have c3 : wv.cell? ⟨q, 1, none⟩ = some (.int .u64 bh) := D1.out.cell 1
      go_wp2_with fail
      refine (H2.out wv).mono ?_
      rintro e wx ⟨rfl, bu⟩
      have C2 := Lib.hid (below_alloc (C1.out.trans (bu.mono C1.out.size)) (.cells #[.int .u64 i1, .int .u64 i2] 26))
      have A2 := Lib.hid ((A1.out.below bu A1.out.lt).alloc (.cells #[.int .u64 i1, .int .u64 i2] 26))
      have D2 := Lib.hid ((D1.out.below bu D1.out.lt).alloc (.cells #[.int .u64 i1, .int .u64 i2] 26))
      have E2 := Lib.hid ((E1.out.below bu E1.out.lt).alloc (.cells #[.int .u64 i1, .int .u64 i2] 26))
      have F2 := Lib.hid (Ob.fresh wx 26 [.int .u64 i1, .int .u64 i2])
      clear bu c0 c1 c2 c3 A1 D1 C1 E1 H2
      go_upto_region 8 with fail
      generalize wx.alloc (.cells #[.int .u64 i1, .int .u64 i2] 26) = wy at C2 A2 D2 E2 F2 ⊢
      generalize wx.heap.size = p2 at F2 ⊢
      have m0 : wy.cell? ⟨p1, 0, none⟩ = some (.int .u64 i1) := E2.out.cell 0
      have m1 : wy.cell? ⟨p1, 1, none⟩ = some (.int .u64 i2) := E2.out.cell 1
      have n0 : wy.cell? ⟨p2, 0, none⟩ = some (.int .u64 i1) := F2.out.cell 0
      have n1 : wy.cell? ⟨p2, 1, none⟩ = some (.int .u64 i2) := F2.out.cell 1
      go_wp2_with fail
      exact ⟨⟨k + 1, by omega, by go_num, C2.out, A2.out, D2.out⟩, by simp [intOf]; omega⟩
    · have g1 : ¬ (k : Int) < 12 := by omega
      obtain ⟨i1, i2, ok, h1, h2⟩ := HP.out op
      have H1 := Lib.hid h1
      have H2 := Lib.hid h2
      clear h1 h2
      go_wp2_with fail
      refine (H1.out wr).mono ?_
      rintro e wu ⟨rfl, bu⟩
      have C1 := Lib.hid (below_alloc (C.out.trans (bu.mono C.out.size)) (.cells #[.int .u64 i1, .int .u64 i2] 26))
      have A1 := Lib.hid ((A.out.below bu A.out.lt).alloc (.cells #[.int .u64 i1, .int .u64 i2] 26))
      have D1 := Lib.hid ((D.out.below bu D.out.lt).alloc (.cells #[.int .u64 i1, .int .u64 i2] 26))
      have E1 := Lib.hid (Ob.fresh wu 26 [.int .u64 i1, .int .u64 i2])
      clear bu c0 c1 c2 c3 A D C H1
      go_upto_region 11 with fail
      generalize wu.alloc (.cells #[.int .u64 i1, .int .u64 i2] 26) = wv at C1 A1 D1 E1 ⊢
      generalize wu.heap.size = p1 at E1 ⊢
      have c0 : wv.cell? ⟨p, 0, none⟩ = some (.int .u64 al) := A1.out.cell 0
      have c1 : wv.cell? ⟨p, 1, none⟩ = some (.int .u64 ah) := A1.out.cell 1
      have c2 : wv.cell? ⟨q, 0, none⟩ = some (.int .u64 bl) := D1.out.cell 0
      have c3 : wv.cell? ⟨q, 1, none⟩ = some (.int .u64 bh) := D1.out.cell 1
      go_wp2_with fail
      refine (H2.out wv).mono ?_
      rintro e wx ⟨rfl, bu⟩
      have C2 := Lib.hid (below_alloc (C1.out.trans (bu.mono C1.out.size)) (.cells #[.int .u64 i1, .int .u64 i2] 26))
      have A2 := Lib.hid ((A1.out.below bu A1.out.lt).alloc (.cells #[.int .u64 i1, .int .u64 i2] 26))
      have D2 := Lib.hid ((D1.out.below bu D1.out.lt).alloc (.cells #[.int .u64 i1, .int .u64 i2] 26))
      have E2 := Lib.hid ((E1.out.below bu E1.out.lt).alloc (.cells #[.int .u64 i1, .int .u64 i2] 26))
      have F2 := Lib.hid (Ob.fresh wx 26 [.int .u64 i1, .int .u64 i2])
      clear bu c0 c1 c2 c3 A1 D1 C1 E1 H2
      go_upto_region 12 with fail
      generalize wx.alloc (.cells #[.int .u64 i1, .int .u64 i2] 26) = wy at C2 A2 D2 E2 F2 ⊢
      generalize wx.heap.size = p2 at F2 ⊢
      have m0 : wy.cell? ⟨p1, 0, none⟩ = some (.int .u64 i1) := E2.out.cell 0
      have m1 : wy.cell? ⟨p1, 1, none⟩ = some (.int .u64 i2) := E2.out.cell 1
      have n0 : wy.cell? ⟨p2, 0, none⟩ = some (.int .u64 i1) := F2.out.cell 0
      have n1 : wy.cell? ⟨p2, 1, none⟩ = some (.int .u64 i2) := F2.out.cell 1
      go_wp2_with fail
      go_ret
      exact ⟨rfl, C2.out⟩

theorem does_law (w : World) (op : Int) (_hop : (Lit.int .i64 op).wf = true) (a : SpanV) (va : Value) (ha : RdSpan w va a) (b : SpanV) (vb : Value) (hb : RdSpan w vb b) :
    Calls Try.prog 4 #[.int .i64 op, va, vb] w fun e w' => e = .returned (.bool true) ∧ Below w.heap.size w w' := by
  obtain ⟨rfl, ha⟩ := ha
  obtain ⟨rfl, hb⟩ := hb
  obtain ⟨xl, e1⟩ := uv_of _ ha.1 (Int.lt_of_le_of_lt ha.2.1 (by decide))
  obtain ⟨xh, e2⟩ := uv_of _ ha.2.2.1 (Int.lt_of_le_of_lt ha.2.2.2 (by decide))
  obtain ⟨yl, e3⟩ := uv_of _ hb.1 (Int.lt_of_le_of_lt hb.2.1 (by decide))
  obtain ⟨yh, e4⟩ := uv_of _ hb.2.2.1 (Int.lt_of_le_of_lt hb.2.2.2 (by decide))
  rw [e1, e2, e3, e4]
  exact does_walk w op xl xh yl yh

end Go.Proofs.Ytchlokhmcadgaaa
