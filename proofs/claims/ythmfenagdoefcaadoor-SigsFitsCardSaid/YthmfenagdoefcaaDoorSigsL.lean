/-
  What the row's list says of the table of layer 8. Conditions: none.
-/
import Derived.Test.YthmfenagdoefcaaDoorSigsD
import Derived.Test.YthmfenagdoefcaaDoorRows
import Derived.Lib.LaidU8
namespace Go.Proofs.YthmfenagdoefcaaDoor
open Go.RowKit

section
variable {H : Type} {enc : TypeId × Value → H} {P : Program} {w : World} {base : Nat} {sp : Nat → Bool} {held : Bool}
theorem array_parts {fuel : Nat} {t e : TypeId} {n : Nat} {cs : List Value} {ds : List (DataW H)} {p : List MemPlace} (ht : P.underlying t = some (.array n e))
    (h : DataW.trod enc P w base sp held fuel t cs = some (.agg ds, p)) : cs.length = P.cellsOf t ∧ ∀ i, i < n → ∃ fuel' d q, ds[i]? = some d ∧ DataW.trod enc P w base sp held fuel' e ((cs.drop (i * P.cellsOf e)).take (P.cellsOf e)) = some (d, q) := by
  refine ⟨?_, fun i hi => Lib.array_elem ht h i hi⟩
  cases fuel with
  | zero => simp [DataW.trod] at h
  | succ fuel =>
    simp only [DataW.trod, ht] at h
    split at h
    · assumption
    · cases h
end

theorem sig_cells {H : Type} {enc : TypeId × Value → H} {w : World} {base : Nat} {sp : Nat → Bool} {held : Bool} {fuel : Nat} {cs : List Value} {a b : List UInt8} {m k : Int} {f : Bool} {p : List MemPlace}
    (h : DataW.trod enc Tryd.prog w base sp held fuel 53 cs = some (.agg [.lit (.string a), .lit (.string b), .lit (.int .u64 m), .lit (.int .i64 k), .lit (.bool f)], p)) :
    cs = [.string ⟨a.toArray⟩, .string ⟨b.toArray⟩, .int .u64 m, .int .i64 k, .bool f] := by
  obtain ⟨xs, n, rfl, hx, hl, hxl, hall⟩ := DataW.trod_struct Tryd.underlying53 h
  have h0 := hall 0 _ rfl
  have h1 := hall 1 _ rfl
  have h2 := hall 2 _ rfl
  have h3 := hall 3 _ rfl
  have h4 := hall 4 _ rfl
  have hc : cs.length = 5 := hl.trans (by kernel_rfl)
  clear hall
  have hxl5 : xs.length = 5 := hxl
  match xs, hxl5 with
  | [x0, x1, x2, x3, x4], _ =>
  match cs, hc with
  | [c0, c1, c2, c3, c4], _ =>
  have hd := congrArg Prod.fst hx
  simp only [List.map_cons, List.map_nil, DataW.agg.injEq, List.cons.injEq, and_true] at hd
  obtain ⟨e0, e1, e2, e3, e4⟩ := hd
  obtain ⟨s0, q0, r0, _⟩ := DataW.trod_string Tryd.underlying9 (x := x0) h0
  obtain ⟨s1, q1, r1, _⟩ := DataW.trod_string Tryd.underlying9 (x := x1) h1
  obtain ⟨s2, q2, r2, _⟩ := DataW.trod_int Tryd.underlying27 (x := x2) h2
  obtain ⟨s3, q3, r3, _⟩ := DataW.trod_int Tryd.underlying40 (x := x3) h3
  obtain ⟨s4, q4, r4⟩ := DataW.trod_bool Tryd.underlying4 (x := x4) h4
  rw [r0] at e0
  rw [r1] at e1
  rw [r2] at e2
  rw [r3] at e3
  rw [r4] at e4
  have g0 : [c0] = [.string s0] := q0
  have g1 : [c1] = [.string s1] := q1
  have g2 : [c2] = [.int .u64 s2] := q2
  have g3 : [c3] = [.int .i64 s3] := q3
  have g4 : [c4] = [.bool s4] := q4
  simp only [List.cons.injEq, and_true] at g0 g1 g2 g3 g4
  simp only [DataW.lit.injEq, Lit.string.injEq, Lit.int.injEq, Lit.bool.injEq, true_and] at e0 e1 e2 e3 e4
  subst g0 g1 g2 g3 g4 e0 e1 e2 e3 e4
  cases s0
  cases s1
  simp

theorem chunk {l : List Value} {c : List Value} (h : l.take 5 = c) : l = c ++ l.drop 5 := by rw [← h, List.take_append_drop]

/-- the table, as the row lays it, lies in its block -/
theorem tab_of {W : World} (h : Lib.VarReads Tryd.prog W "tappet/sigs.table" Rows.laid_tappet_sigs_table) : Tab W := by
  obtain ⟨g, t, cs, fuel, p, hg, hty, hvar, hd⟩ := h
  obtain rfl : 0 = g := Option.some.inj ((show Tryd.prog.globalNamed "tappet/sigs.table" = some 0 by kernel_rfl).symm.trans hg)
  obtain rfl : 58 = t := Option.some.inj ((show (Tryd.prog.globals[0]?).map (·.type) = some 58 by kernel_rfl).symm.trans hty)
  obtain ⟨hlen, hel⟩ := array_parts Tryd.underlying58 hd
  have hc5 : Tryd.prog.cellsOf 53 = 5 := by kernel_rfl
  rw [show Tryd.prog.cellsOf 58 = 35 by kernel_rfl] at hlen
  simp only [hc5] at hel
  have hE : ∀ i, i < 7 → (cs.toList.drop (i * 5)).take 5 = sg i := by
    intro i hi
    obtain ⟨fuel', d, q, hdd, htr⟩ := hel i hi
    rcases y_cases hi with rfl | rfl | rfl | rfl | rfl | rfl | rfl
    all_goals
      obtain rfl := Option.some.inj hdd
      exact sig_cells htr
  have h0 := hE 0 (by omega)
  have h1 := hE 1 (by omega)
  have h2 := hE 2 (by omega)
  have h3 := hE 3 (by omega)
  have h4 := hE 4 (by omega)
  have h5 := hE 5 (by omega)
  have h6 := hE 6 (by omega)
  have hcs : cs.toList = tabL := by
    have e0 := chunk (l := cs.toList) (by simpa using h0)
    have e1 := chunk h1
    have e2 := chunk h2
    have e3 := chunk h3
    have e4 := chunk h4
    have e5 := chunk h5
    have e6 := chunk h6
    simp only [List.drop_drop, Nat.reduceMul, Nat.reduceAdd, Nat.one_mul] at e0 e1 e2 e3 e4 e5 e6
    have e7 : cs.toList.drop 35 = [] := List.drop_of_length_le (by rw [hlen]; omega)
    rw [e0, e1, e2, e3, e4, e5, e6, e7]
    simp [tabL]
  unfold World.var? at hvar
  rw [show Tryd.prog.globalNamed "tappet/sigs.table" = some 0 by kernel_rfl] at hvar
  simp only [Option.bind_some] at hvar
  split at hvar
  · rename_i c tt fr hb
    cases hvar
    refine ⟨tt, fr, ?_⟩
    rw [hb, ← hcs]
  · cases hvar
theorem tab_of_laid {W : World} {l : List (String × DataW Unit)} (hl : l = [("tappet/sigs.table", Rows.laid_tappet_sigs_table)]) (h : laidMetH Tryd.prog l W) : Tab W := by
  subst hl
  have h2 : laidMet Tryd.prog [("tappet/sigs.table", Rows.laid_tappet_sigs_table)] W := h
  exact tab_of (Lib.laidMet.reads h2 (.head _))

end Go.Proofs.YthmfenagdoefcaaDoor
