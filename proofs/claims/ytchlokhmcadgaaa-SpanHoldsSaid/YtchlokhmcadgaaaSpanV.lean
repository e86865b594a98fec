/-
  The law SpanHolds: what came in. Conditions: none.
-/
import Derived.Test.YtchlokhmcadgaaaSpanU
namespace Go.Proofs.Ytchlokhmcadgaaa
open Go.RowKit

/-- two spans and two numbers that came in -/
structure AskV where
  al : BitVec 64
  ah : BitVec 64
  bl : BitVec 64
  bh : BitVec 64
  x : BitVec 64
  y : BitVec 64
def askc (a : AskV) : List Value := [.int .u64 (uv a.al), .int .u64 (uv a.ah), .int .u64 (uv a.bl), .int .u64 (uv a.bh), .int .u64 (uv a.x), .int .u64 (uv a.y)]
theorem ask_cells {H : Type} {enc : TypeId × Value → H} {w : World} {base : Nat} {sp : Nat → Bool} {held : Bool} {fuel : Nat} {cs : List Value} {x : DataW H × List MemPlace}
    (h : DataW.trod enc Try.prog w base sp held fuel 42 cs = some x) : ∃ a, cs = askc a := by
  obtain ⟨xs, n, rfl, hx, hl, hxl, hall⟩ := DataW.trod_struct Try.underlying42 h
  have h0 := hall 0 _ rfl
  have h1 := hall 1 _ rfl
  have h2 := hall 2 _ rfl
  have h3 := hall 3 _ rfl
  have hc : cs.length = 6 := hl.trans (by kernel_rfl)
  have hxl4 : xs.length = 4 := hxl
  clear hall hl hx
  match xs, hxl4 with
  | [x0, x1, x2, x3], _ =>
  match cs, hc with
  | [c0, c1, c2, c3, c4, c5], _ =>
  have h0' : DataW.trod enc Try.prog w base sp held n 26 [c0, c1] = some x0 := h0
  have h1' : DataW.trod enc Try.prog w base sp held n 26 [c2, c3] = some x1 := h1
  obtain ⟨s, hs, gs⟩ := span_cells h0'
  obtain ⟨t, ht, gt⟩ := span_cells h1'
  obtain ⟨n4, q4, _, w4⟩ := DataW.trod_int Try.underlying24 (x := x2) h2
  obtain ⟨n5, q5, _, w5⟩ := DataW.trod_int Try.underlying24 (x := x3) h3
  have g4 : [c4] = [.int .u64 n4] := q4
  have g5 : [c5] = [.int .u64 n5] := q5
  obtain ⟨xx, rfl⟩ := uv_of_wf w4
  obtain ⟨yy, rfl⟩ := uv_of_wf w5
  obtain ⟨a1, e1⟩ := uv_of _ gs.1 (Int.lt_of_le_of_lt gs.2.1 (by decide))
  obtain ⟨a2, e2⟩ := uv_of _ gs.2.2.1 (Int.lt_of_le_of_lt gs.2.2.2 (by decide))
  obtain ⟨b1, e3⟩ := uv_of _ gt.1 (Int.lt_of_le_of_lt gt.2.1 (by decide))
  obtain ⟨b2, e4⟩ := uv_of _ gt.2.2.1 (Int.lt_of_le_of_lt gt.2.2.2 (by decide))
  unfold spc at hs ht
  rw [e1, e2] at hs
  rw [e3, e4] at ht
  simp only [List.cons.injEq, and_true] at g4 g5 hs ht
  obtain ⟨rfl, rfl⟩ := hs
  obtain ⟨rfl, rfl⟩ := ht
  subst g4 g5
  exact ⟨⟨a1, a2, b1, b2, xx, yy⟩, rfl⟩
def RdAsk (_ : World) (v : Value) (a : AskV) : Prop := v = .agg (askc a).toArray
theorem open_ask {H : Type} {enc : TypeId × Value → H} {w : World} {base b0 : Nat} {sp : Nat → Bool} {held : Bool} {fuel : Nat} {v : Value} {x : DataW H × List MemPlace}
    (hv : Value.okWide Try.prog w .any b0 42 v) (h : DataW.trod enc Try.prog w base sp held fuel 42 v.cells.toList = some x) : ∃ a, RdAsk w v a := by
  obtain ⟨cs, rfl, hcs⟩ := Go.WideShapes.okWide_struct Try.underlying42 hv
  obtain ⟨a, ha⟩ := ask_cells h
  refine ⟨a, ?_⟩
  unfold RdAsk
  congr 1
  exact Array.ext' ha
theorem holds_law (w : World) (a : AskV) (v : Value) (hr : RdAsk w v a) :
    Calls Try.prog 7 #[v] w fun e w' => e = .returned (.bool true) ∧ Below w.heap.size w w' := by
  obtain rfl := hr
  exact holds_walk w a.al a.ah a.bl a.bh a.x a.y

end Go.Proofs.Ytchlokhmcadgaaa
