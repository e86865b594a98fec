/-
  What the row's list says of the two tables; what a Run that came in reads as. Conditions: the form's own reach.
  Layer 11: a machine's trace: of a module that isn't judged good, and of the one that runs asks for. Conditions: those of each theorem.
-/
import Derived.Test.YtjcffmcafjineaaDoorWm27
import Derived.Test.YtjcffmcafjineaaDoorWm01
import Derived.Test.YtjcffmcafjineaaDoorRows
import Derived.Lib.LaidU8
import Derived.Test.YtjcffmcafjineaaDoorWm25
import Derived.Test.YtjcffmcafjineaaDoorWm11
set_option linter.unusedVariables false
set_option linter.unusedSimpArgs false
section
namespace Go.Proofs.YtjcffmcafjineaaDoor.Tp
open Go.RowKit Go.ChangeShapes Go.WideShapes Go.ChangeAt Go.Deep
open Go.Proofs.YtjcffmcafjineaaDoor.Op (InstV insc inss ins0 Frm frm frmL)
open Go.Proofs.YtjcffmcafjineaaDoor.Sg (ResV rec_ reVal Tab sg tabL)
open Go.Proofs.YtjcffmcafjineaaDoor.En (ints ResOk)
set_option maxRecDepth 100000

section
variable {H : Type} {enc : TypeId × Value → H} {P : Program} {w : World} {base : Nat} {sp : Nat → Bool} {held : Bool}
theorem array_parts {fuel : Nat} {t e : TypeId} {n : Nat} {cs : List Value} {ds : List (DataW H)} {p : List MemPlace} (ht : P.underlying t = some (.array n e))
 (h : DataW.trod enc P w base sp held fuel t cs = some (.agg ds, p)) : cs.length = P.cellsOf t ∧ ∀ i, i < n → ∃ fuel' d q, ds[i]? = some d ∧ DataW.trod enc P w base sp held fuel' e ((cs.drop (i * P.cellsOf e)).take (P.cellsOf e)) = some (d, q) := by
 refine ⟨?_, fun i hi => Lib.array_elem ht h i hi⟩
 cases fuel with
 | zero => simp [DataW.trod] at h
 | succ fuel =>
   simp only [DataW.trod, ht] at h
   split at h
   · assumption
   cases h
end
theorem sig_cells {H : Type} {enc : TypeId × Value → H} {w : World} {base : Nat} {sp : Nat → Bool} {held : Bool} {fuel : Nat} {cs : List Value} {a b : List UInt8} {m k : Int} {f : Bool} {p : List MemPlace}
 (h : DataW.trod enc Tryd.prog w base sp held fuel 148 cs = some (.agg [.lit (.string a), .lit (.string b), .lit (.int .u64 m), .lit (.int .i64 k), .lit (.bool f)], p)) :
 cs = [.string ⟨a.toArray⟩, .string ⟨b.toArray⟩, .int .u64 m, .int .i64 k, .bool f] := by
 obtain ⟨xs, n, rfl, hx, hl, hxl, hall⟩ := DataW.trod_struct Tryd.underlying148 h
 have h0 := hall 0 _ rfl
 have h1 := hall 1 _ rfl
 have h2 := hall 2 _ rfl
 have h3 := hall 3 _ rfl
 have h4 := hall 4 _ rfl
 have hc : cs.length = 5 := hl.trans (by kernel_rfl)
 clear hall
 have hxl5 : xs.length = 5 := hxl
 match xs, hxl5 with
 | [x0, x1, x2, x3, x4], _ =>
 match cs, hc with
 | [c0, c1, c2, c3, c4], _ =>
 have hd := congrArg Prod.fst hx
 simp only [List.map_cons, List.map_nil, DataW.agg.injEq, List.cons.injEq, and_true] at hd
 obtain ⟨e0, e1, e2, e3, e4⟩ := hd
 obtain ⟨s0, q0, r0, _⟩ := DataW.trod_string Tryd.underlying9 (x := x0) h0
 obtain ⟨s1, q1, r1, _⟩ := DataW.trod_string Tryd.underlying9 (x := x1) h1
 obtain ⟨s2, q2, r2, _⟩ := DataW.trod_int Tryd.underlying26 (x := x2) h2
 obtain ⟨s3, q3, r3, _⟩ := DataW.trod_int Tryd.underlying53 (x := x3) h3
 obtain ⟨s4, q4, r4⟩ := DataW.trod_bool Tryd.underlying4 (x := x4) h4
 rw [r0] at e0
 rw [r1] at e1
 rw [r2] at e2
 rw [r3] at e3
 rw [r4] at e4
 have g0 : [c0] = [.string s0] := q0
 have g1 : [c1] = [.string s1] := q1
 have g2 : [c2] = [.int .u64 s2] := q2
 have g3 : [c3] = [.int .i64 s3] := q3
 have g4 : [c4] = [.bool s4] := q4
 simp only [List.cons.injEq, and_true] at g0 g1 g2 g3 g4
 simp only [DataW.lit.injEq, Lit.string.injEq, Lit.int.injEq, Lit.bool.injEq, true_and] at e0 e1 e2 e3 e4
 subst g0 g1 g2 g3 g4 e0 e1 e2 e3 e4
 cases s0
 cases s1
 simp
theorem form_cells {H : Type} {enc : TypeId × Value → H} {w : World} {base : Nat} {sp : Nat → Bool} {held : Bool} {fuel : Nat} {cs : List Value} {a b : List UInt8} {p : List MemPlace}
 (h : DataW.trod enc Tryd.prog w base sp held fuel 155 cs = some (.agg [.lit (.string a), .lit (.string b)], p)) : cs = [.string ⟨a.toArray⟩, .string ⟨b.toArray⟩] := by
 obtain ⟨xs, n, rfl, hx, hl, hxl, hall⟩ := DataW.trod_struct Tryd.underlying155 h
 have h0 := hall 0 _ rfl
 have h1 := hall 1 _ rfl
 have hc : cs.length = 2 := hl.trans (by kernel_rfl)
 clear hall
 have hxl5 : xs.length = 2 := hxl
 match xs, hxl5 with
 | [x0, x1], _ =>
 match cs, hc with
 | [c0, c1], _ =>
 have hd := congrArg Prod.fst hx
 simp only [List.map_cons, List.map_nil, DataW.agg.injEq, List.cons.injEq, and_true] at hd
 obtain ⟨e0, e1⟩ := hd
 obtain ⟨s0, q0, r0, _⟩ := DataW.trod_string Tryd.underlying9 (x := x0) h0
 obtain ⟨s1, q1, r1, _⟩ := DataW.trod_string Tryd.underlying9 (x := x1) h1
 rw [r0] at e0
 rw [r1] at e1
 have g0 : [c0] = [.string s0] := q0
 have g1 : [c1] = [.string s1] := q1
 simp only [List.cons.injEq, and_true] at g0 g1
 simp only [DataW.lit.injEq, Lit.string.injEq] at e0 e1
 subst g0 g1 e0 e1
 cases s0
 cases s1
 simp
theorem chunkL {l : List Value} {c : List Value} {n : Nat} (h : l.take n = c) : l = c ++ l.drop n := by rw [← h, List.take_append_drop]
theorem tab_of {W : World} (h : Lib.VarReads Tryd.prog W "tappet/sigs.table" Rows.laid_tappet_sigs_table) : Tab W := by
 obtain ⟨g, t, cs, fuel, p, hg, hty, hvar, hd⟩ := h
 obtain rfl : 0 = g := Option.some.inj ((show Tryd.prog.globalNamed "tappet/sigs.table" = some 0 by kernel_rfl).symm.trans hg)
 obtain rfl : 167 = t := Option.some.inj ((show (Tryd.prog.globals[0]?).map (·.type) = some 167 by kernel_rfl).symm.trans hty)
 obtain ⟨hlen, hel⟩ := array_parts Tryd.underlying167 hd
 have hc5 : Tryd.prog.cellsOf 148 = 5 := by kernel_rfl
 rw [show Tryd.prog.cellsOf 167 = 35 by kernel_rfl] at hlen
 simp only [hc5] at hel
 have hE : ∀ i, i < 7 → (cs.toList.drop (i * 5)).take 5 = sg i := by
  intro i hi
  obtain ⟨fuel', d, q, hdd, htr⟩ := hel i hi
  rcases Sg.y_cases hi with rfl | rfl | rfl | rfl | rfl | rfl | rfl
  all_goals
   obtain rfl := Option.some.inj hdd
   exact sig_cells htr
 have h0 := hE 0 (by omega)
 have h1 := hE 1 (by omega)
 have h2 := hE 2 (by omega)
 have h3 := hE 3 (by omega)
 have h4 := hE 4 (by omega)
 have h5 := hE 5 (by omega)
 have h6 := hE 6 (by omega)
 have hcs : cs.toList = tabL := by
  have e0 := chunkL (l := cs.toList) (by simpa using h0)
  have e1 := chunkL h1
  have e2 := chunkL h2
  have e3 := chunkL h3
  have e4 := chunkL h4
  have e5 := chunkL h5
  have e6 := chunkL h6
  simp only [List.drop_drop, Nat.reduceMul, Nat.reduceAdd, Nat.one_mul] at e0 e1 e2 e3 e4 e5 e6
  have e7 : cs.toList.drop 35 = [] := List.drop_of_length_le (by rw [hlen]; omega)
  rw [e0, e1, e2, e3, e4, e5, e6, e7]
  simp [tabL]
 unfold World.var? at hvar
 rw [show Tryd.prog.globalNamed "tappet/sigs.table" = some 0 by kernel_rfl] at hvar
 simp only [Option.bind_some] at hvar
 split at hvar
 · rename_i c tt fr hb
   cases hvar
   refine ⟨tt, fr, ?_⟩
   rw [hb, ← hcs]
 cases hvar
theorem frm_of {W : World} (h : Lib.VarReads Tryd.prog W "tappet/ops.forms" Rows.laid_tappet_ops_forms) : Frm W := by
 obtain ⟨g, t, cs, fuel, p, hg, hty, hvar, hd⟩ := h
 obtain rfl : 1 = g := Option.some.inj ((show Tryd.prog.globalNamed "tappet/ops.forms" = some 1 by kernel_rfl).symm.trans hg)
 obtain rfl : 170 = t := Option.some.inj ((show (Tryd.prog.globals[1]?).map (·.type) = some 170 by kernel_rfl).symm.trans hty)
 obtain ⟨hlen, hel⟩ := array_parts Tryd.underlying170 hd
 have hc2 : Tryd.prog.cellsOf 155 = 2 := by kernel_rfl
 rw [show Tryd.prog.cellsOf 170 = 46 by kernel_rfl] at hlen
 simp only [hc2] at hel
 have hE : ∀ i, i < 23 → (cs.toList.drop (i * 2)).take 2 = frm i := by
  intro i hi
  obtain ⟨fuel', d, q, hdd, htr⟩ := hel i hi
  rcases Op.y_cases hi with rfl | rfl | rfl | rfl | rfl | rfl | rfl | rfl | rfl | rfl | rfl | rfl | rfl | rfl | rfl | rfl | rfl | rfl | rfl | rfl | rfl | rfl | rfl
  all_goals
   obtain rfl := Option.some.inj hdd
   exact form_cells htr
 have hcs : cs.toList = frmL := by
  have key : ∀ k, k ≤ 23 → cs.toList.drop ((23 - k) * 2) = ((List.range k).map fun i => frm (23 - k + i)).flatten := by
   intro k
   induction k with
   | zero => intro _; exact List.drop_of_length_le (by rw [hlen]; decide)
   | succ k ih =>
     intro hk
     have e := chunkL (hE (23 - (k + 1)) (by omega))
     rw [e, List.drop_drop, show (23 - (k + 1)) * 2 + 2 = (23 - k) * 2 by omega, ih (by omega), List.range_succ_eq_map]
     simp only [List.map_cons, List.flatten_cons, List.map_map, Nat.add_zero]
     congr 2
     apply List.map_congr_left
     intro i _
     simp only [Function.comp]
     congr 1
     omega
  have e := key 23 (Nat.le_refl _)
  rw [show (23 - 23) * 2 = 0 by rfl, List.drop_zero] at e
  rw [e]
  rfl
 unfold World.var? at hvar
 rw [show Tryd.prog.globalNamed "tappet/ops.forms" = some 1 by kernel_rfl] at hvar
 simp only [Option.bind_some] at hvar
 split at hvar
 · rename_i c tt fr hb
   cases hvar
   refine ⟨tt, fr, ?_⟩
   rw [hb, ← hcs]
 cases hvar
theorem frm_of_laid {W : World} {l : List (String × DataW Unit)} (hl : l = [("tappet/ops.forms", Rows.laid_tappet_ops_forms), ("tappet/sigs.table", Rows.laid_tappet_sigs_table)]) (h : laidMetH Tryd.prog l W) : Frm W := by
 subst hl
 have h2 : laidMet Tryd.prog [("tappet/ops.forms", Rows.laid_tappet_ops_forms), ("tappet/sigs.table", Rows.laid_tappet_sigs_table)] W := h
 exact frm_of (Lib.laidMet.reads h2 (.head _))
theorem tab_of_laid {W : World} {l : List (String × DataW Unit)} (hl : l = [("tappet/ops.forms", Rows.laid_tappet_ops_forms), ("tappet/sigs.table", Rows.laid_tappet_sigs_table)]) (h : laidMetH Tryd.prog l W) : Tab W := by
 subst hl
 have h2 : laidMet Tryd.prog [("tappet/ops.forms", Rows.laid_tappet_ops_forms), ("tappet/sigs.table", Rows.laid_tappet_sigs_table)] W := h
 exact tab_of (Lib.laidMet.reads h2 (.tail _ (.head _)))

/-! a Run that came in -/
section
variable {H : Type} {enc : TypeId × Value → H} {w : World} {base b0 : Nat} {sp : Nat → Bool} {held : Bool} {fuel : Nat}
theorem inst_cells {cs : List Value} {x : DataW H × List MemPlace} (h : DataW.trod enc Tryd.prog w base sp held fuel 70 cs = some x) : ∃ i, cs = insc i := by
 obtain ⟨xs, n, rfl, hx, hl, hxl, hall⟩ := DataW.trod_struct Tryd.underlying70 h
 have h0 := hall 0 _ rfl
 have h1 := hall 1 _ rfl
 have h2 := hall 2 _ rfl
 have h3 := hall 3 _ rfl
 have h4 := hall 4 _ rfl
 have hc : cs.length = 5 := hl.trans (by kernel_rfl)
 have hxl5 : xs.length = 5 := hxl
 clear hall hl hx
 match xs, hxl5 with
 | [x0, x1, x2, x3, x4], _ =>
 match cs, hc with
 | [c0, c1, c2, c3, c4], _ =>
 obtain ⟨n0, q0, _, _⟩ := DataW.trod_int Tryd.underlying68 (x := x0) h0
 obtain ⟨n1, q1, _, _⟩ := DataW.trod_int Tryd.underlying3 (x := x1) h1
 obtain ⟨n2, q2, _, _⟩ := DataW.trod_int Tryd.underlying3 (x := x2) h2
 obtain ⟨n3, q3, _, _⟩ := DataW.trod_int Tryd.underlying3 (x := x3) h3
 obtain ⟨n4, q4, _, _⟩ := DataW.trod_int Tryd.underlying2 (x := x4) h4
 have g0 : [c0] = [.int .i64 n0] := q0
 have g1 : [c1] = [.int .i64 n1] := q1
 have g2 : [c2] = [.int .i64 n2] := q2
 have g3 : [c3] = [.int .i64 n3] := q3
 have g4 : [c4] = [.int .i64 n4] := q4
 simp only [List.cons.injEq, and_true] at g0 g1 g2 g3 g4
 subst g0 g1 g2 g3 g4
 exact ⟨⟨n0, n1, n2, n3, n4⟩, rfl⟩
/-- a Res, its number as one of 64 bits -/
structure ResB where
 e : Int
 found : Bool
 val : BitVec 64
 isOut : Bool
 ok : Int
 ov : Int
def ResB.v (r : ResB) : ResV := ⟨r.e, r.found, uv r.val, r.isOut, r.ok, r.ov⟩
theorem res_cells {cs : List Value} {x : DataW H × List MemPlace} (h : DataW.trod enc Tryd.prog w base sp held fuel 64 cs = some x) : ∃ r : ResB, cs = rec_ r.v := by
 obtain ⟨xs, n, rfl, hx, hl, hxl, hall⟩ := DataW.trod_struct Tryd.underlying64 h
 have h0 := hall 0 _ rfl
 have h1 := hall 1 _ rfl
 have h2 := hall 2 _ rfl
 have h3 := hall 3 _ rfl
 have h4 := hall 4 _ rfl
 have h5 := hall 5 _ rfl
 have hc : cs.length = 6 := hl.trans (by kernel_rfl)
 have hxl6 : xs.length = 6 := hxl
 clear hall hl hx
 match xs, hxl6 with
 | [x0, x1, x2, x3, x4, x5], _ =>
 match cs, hc with
 | [c0, c1, c2, c3, c4, c5], _ =>
 obtain ⟨n0, q0, _, _⟩ := DataW.trod_int Tryd.underlying33 (x := x0) h0
 obtain ⟨n1, q1, _⟩ := DataW.trod_bool Tryd.underlying4 (x := x1) h1
 obtain ⟨n2, q2, _, wf⟩ := DataW.trod_int Tryd.underlying26 (x := x2) h2
 obtain ⟨n3, q3, _⟩ := DataW.trod_bool Tryd.underlying4 (x := x3) h3
 obtain ⟨n4, q4, _, _⟩ := DataW.trod_int Tryd.underlying26 (x := x4) h4
 obtain ⟨n5, q5, _, _⟩ := DataW.trod_int Tryd.underlying26 (x := x5) h5
 obtain ⟨u2, rfl⟩ := uv_of_wf wf
 have g0 : [c0] = [.int .i64 n0] := q0
 have g1 : [c1] = [.bool n1] := q1
 have g2 : [c2] = [.int .u64 (uv u2)] := q2
 have g3 : [c3] = [.bool n3] := q3
 have g4 : [c4] = [.int .u64 n4] := q4
 have g5 : [c5] = [.int .u64 n5] := q5
 simp only [List.cons.injEq, and_true] at g0 g1 g2 g3 g4 g5
 subst g0 g1 g2 g3 g4 g5
 exact ⟨⟨n0, n1, u2, n3, n4, n5⟩, rfl⟩
/-- what a Run that came in is -/
structure RunOk (w : World) (v : Value) (ea eb : BitVec 64) (l : List InstV) (ms : List Int) (rs : List ResV) (mA cA rA : Option Addr) (cm c cr : Nat) : Prop where
 v : v = .agg #[.slice mA ms.length cm, .slice cA l.length c, .int .u64 (uv ea), .int .u64 (uv eb), .slice rA rs.length cr]
 m : Sl w mA (ints ms)
 c : Sl w cA (inss l)
 r : Sl w rA (recs rs)
 o : ∀ r ∈ rs, ResOk r
 b1 : ms.length * 8 ≤ 140737488351232
 b2 : l.length * 40 ≤ 140737488351232
 b3 : rs.length ≤ 140737488351232
def RdRun (w : World) (v : Value) (_ : Unit) : Prop := ∃ ea eb l ms rs mA cA rA cm c cr, RunOk w v ea eb l ms rs mA cA rA cm c cr
theorem open_run {v : Value} {x : DataW H × List MemPlace} (hv : Value.okWide Tryd.prog w .any b0 31 v) (h : DataW.trod enc Tryd.prog w base sp held fuel 31 v.cells.toList = some x)
 (hsz : ∀ y ∈ DataW.weights Tryd.prog 31 x.1, y ≤ reachBytes) : ∃ r, RdRun w v r := by
 obtain ⟨cs, rfl, hcs⟩ := Go.WideShapes.okWide_struct Tryd.underlying31 hv
 obtain ⟨xs, n, rfl, hx, hl, hxl, hall⟩ := DataW.trod_struct Tryd.underlying31 h
 have h0 := hall 0 _ rfl
 have h1 := hall 1 _ rfl
 have h2 := hall 2 _ rfl
 have hc : cs.size = 5 := hcs.trans (by kernel_rfl)
 have hxl3 : xs.length = 3 := hxl
 clear hall hl
 match xs, hxl3 with
 | [x0, x1, x2], _ =>
 obtain ⟨l⟩ := cs
 have hc5 : l.length = 5 := by simpa using hc
 match l, hc5 with
 | [c0, c1, c2, c3, c4], _ =>
 have h0' : DataW.trod enc Tryd.prog w base sp held n 25 [c0, c1] = some x0 := h0
 have h1' : DataW.trod enc Tryd.prog w base sp held n 28 [c2, c3] = some x1 := h1
 have h2' : DataW.trod enc Tryd.prog w base sp held n 29 [c4] = some x2 := h2
 have hd := congrArg Prod.fst hx
 simp only [List.map_cons, List.map_nil] at hd
 rw [hd] at hsz
 have z0 : ∀ y ∈ DataW.weights Tryd.prog 25 x0.1, y ≤ reachBytes := fun y hy => hsz y (by
  simp only [DataW.weights, Tryd.underlying31]
  exact DataW.weights_mem_each (j := 0) (t := 25) (d := x0.1) (by rfl) (by rfl) y hy)
 have z2 : ∀ y ∈ DataW.weights Tryd.prog 29 x2.1, y ≤ reachBytes := fun y hy => hsz y (by
  simp only [DataW.weights, Tryd.underlying31]
  exact DataW.weights_mem_each (j := 2) (t := 29) (d := x2.1) (by rfl) (by rfl) y hy)
 obtain ⟨ys, m, rfl, hy, _, hyl, hal⟩ := DataW.trod_struct Tryd.underlying25 h0'
 have k0 := hal 0 _ rfl
 have k1 := hal 1 _ rfl
 have hyl2 : ys.length = 2 := hyl
 clear hal
 match ys, hyl2 with
 | [y0, y1], _ =>
 have k0' : DataW.trod enc Tryd.prog w base sp held m 22 [c0] = some y0 := k0
 have k1' : DataW.trod enc Tryd.prog w base sp held m 23 [c1] = some y1 := k1
 have hd2 := congrArg Prod.fst hy
 simp only [List.map_cons, List.map_nil] at hd2
 rw [hd2] at z0
 have w0 : ∀ y ∈ DataW.weights Tryd.prog 22 y0.1, y ≤ reachBytes := fun y hy => z0 y (by
  simp only [DataW.weights, Tryd.underlying25]
  exact DataW.weights_mem_each (j := 0) (t := 22) (d := y0.1) (by rfl) (by rfl) y hy)
 have w1 : ∀ y ∈ DataW.weights Tryd.prog 23 y1.1, y ≤ reachBytes := fun y hy => z0 y (by
  simp only [DataW.weights, Tryd.underlying25]
  exact DataW.weights_mem_each (j := 1) (t := 23) (d := y1.1) (by rfl) (by rfl) y hy)
 obtain ⟨es, m2, _, _, _, hel, hae⟩ := DataW.trod_struct Tryd.underlying28 h1'
 have j0 := hae 0 _ rfl
 have j1 := hae 1 _ rfl
 have hel2 : es.length = 2 := hel
 clear hae
 match es, hel2 with
 | [e0, e1], _ =>
 obtain ⟨n2, q2, _, f2⟩ := DataW.trod_int Tryd.underlying26 (x := e0) j0
 obtain ⟨n3, q3, _, f3⟩ := DataW.trod_int Tryd.underlying26 (x := e1) j1
 obtain ⟨ea, rfl⟩ := uv_of_wf f2
 obtain ⟨eb, rfl⟩ := uv_of_wf f3
 have g2 : [c2] = [.int .u64 (uv ea)] := q2
 have g3 : [c3] = [.int .u64 (uv eb)] := q3
 simp only [List.cons.injEq, and_true] at g2 g3
 subst g2 g3
 obtain ⟨ms, ⟨⟨mA, cm, rfl, _, hm⟩, _, hb1⟩, _⟩ := open_numbers (k := .i64) Tryd.underlying22 Tryd.underlying3 (by kernel_rfl) (by kernel_rfl) k0' w0
 obtain ⟨is, cA, c, rfl, _, hb2, hi⟩ := open_rows ins0 insc 5 (fun _ => rfl) (by omega) Tryd.underlying23 (by kernel_rfl) (fun _ _ _ hx => inst_cells hx) k1' w1
 obtain ⟨rs, rA, cr, rfl, _, hb3, hr⟩ := open_rows (⟨0, false, 0#64, false, 0, 0⟩ : ResB) (fun r => rec_ r.v) 6 (fun _ => rfl) (by omega) Tryd.underlying29 (by kernel_rfl) (fun _ _ _ hx => res_cells hx) h2' z2
 rw [show Tryd.prog.bytesOf 70 = 40 by kernel_rfl] at hb2
 rw [show Tryd.prog.bytesOf 64 = 48 by kernel_rfl] at hb3
 refine ⟨(), ea, eb, is, ms, rs.map ResB.v, mA, cA, rA, cm, c, cr, ⟨by rw [List.length_map], hm, hi, ?_, ?_, hb1, hb2, by rw [List.length_map]; omega⟩⟩
 · have e : recs (rs.map ResB.v) = rs.flatMap (fun r => rec_ r.v) := by unfold recs; rw [List.flatMap_map]
   rw [e]; exact hr
 intro r hr
 obtain ⟨b, _, rfl⟩ := List.mem_map.1 hr
 exact ⟨b.val, rfl⟩
end
end Go.Proofs.YtjcffmcafjineaaDoor.Tp
end

section
namespace Go.Proofs.YtjcffmcafjineaaDoor.Tp
open Go.RowKit
open Go.Proofs.YtjcffmcafjineaaDoor.Op (InstV insc insVal inss ins0 ins_at rightV right_is RightI Frm)
open Go.Proofs.YtjcffmcafjineaaDoor.En (StV rg MAt mcell st0 Tg ActV acc acVal ac0 ofI wrapu srcU runS runD stepS stepA callS callA okI okC keepS sl_tch ints newbad_any new_any step_any)
open Go.Proofs.YtjcffmcafjineaaDoor.Jd (judV)

theorem own_tchB {B : Nat → Prop} {w w' : World} {base : Nat} {e : TypeId} {size n : Nat} {v : Value} {xs : List Value} (h : w.ownsRow base e size v n xs) (k : Tch B w w') (hn : ∀ i, B i → i < base) : w'.ownsRow base e size v n xs := by
 obtain ⟨h1, h2⟩ := h
 refine ⟨h1, ?_⟩
 rcases h2 with h2 | ⟨g, cap, cur, hv, hg, hh, r⟩
 · exact .inl h2
 have hlt : g < w.heap.size := by
  rcases Nat.lt_or_ge g w.heap.size with hx | hx
  · exact hx
  rw [Array.getElem?_eq_none hx] at hh; cases hh
 refine .inr ⟨g, cap, cur, hv, hg, (k.block g hlt fun hb => ?_).trans hh, r⟩
 have := hn g hb
 omega

theorem own_base {w : World} {b base : Nat} {e : TypeId} {size n : Nat} {v : Value} {xs : List Value} (h : w.ownsRow base e size v n xs) (hb : b ≤ base) : w.ownsRow b e size v n xs := by
 obtain ⟨h1, h2⟩ := h
 refine ⟨h1, ?_⟩
 rcases h2 with h2 | ⟨g, cap, cur, hv, hg, r⟩
 · exact .inl h2
 exact .inr ⟨g, cap, cur, hv, Nat.le_trans hb hg, r⟩
def lenV : Value → Nat
 | .slice _ n _ => n
 | _ => 0
theorem own_len {w : World} {base : Nat} {e : TypeId} {size n : Nat} {v : Value} {xs : List Value} (h : w.ownsRow base e size v n xs) : lenV v = n := by
 obtain ⟨A, c, rfl, _⟩ := own_form h
 rfl

set_option maxRecDepth 100000 in
set_option maxHeartbeats 4000000 in
theorem trbad_any (w : World) (ea eb : BitVec 64) (l : List InstV) (ms : List Int) (mA cA : Option Addr) (nm cm n c : Nat) (hn : n = l.length) (hnc : n ≤ c) (hnm : nm = ms.length) (hmc : nm ≤ cm) (hmm : nm ≤ 140737488351232)
 (hf : Frm w) (ht : Sg.Tab w) (hs : Sl w cA (inss l)) (hm : Sl w mA (ints ms)) (hj : (judV ms l).2 ≠ 0) :
 Calls Tryd.prog 7 #[.agg #[.slice mA nm cm, .slice cA n c], .agg #[.int .u64 (uv ea), .int .u64 (uv eb)], .slice none 0 0] w fun e w' => e = .returned (.tuple #[.slice none 0 0, .int .i64 (judV ms l).2]) ∧ Below w.heap.size w w' := by
 have HNB := Lib.hid (fun w gs hf ht hs hm => newbad_any w gs ea eb l ms mA cA nm cm n c hn hnc hnm hmc hmm hf ht hs hm hj)
 obtain ⟨e0, hV⟩ : ∃ V, (judV ms l).2 = V := ⟨_, rfl⟩
 rw [hV] at HNB hj ⊢
 have hji : (e0 != 0) = true := by simpa using hj
 have HF := Lib.hid hf
 have HT := Lib.hid ht
 have HS := Lib.hid hs
 have HM := Lib.hid hm
 have B0 := Lib.hid (Below.refl w.heap.size w)
 clear hn hnc hnm hmc hmm hf ht hs hm hV hj
 go_enter Tryd.func7, Tryd.ntmps7
 go_upto_region 1 with fail
 have O3 := Lib.hid (Ob.alloc (Ob.fresh w 25 [.slice mA nm cm, .slice cA n c]) (.cells #[.int .u64 (uv ea), .int .u64 (uv eb)] 28))
 have O4 := Lib.hid (Ob.fresh (w.alloc (.cells #[.slice mA nm cm, .slice cA n c] 25)) 28 [.int .u64 (uv ea), .int .u64 (uv eb)])
 rw [show (w.alloc (.cells #[.slice mA nm cm, .slice cA n c] 25)).heap.size = w.heap.size + 1 by simp] at O4
 have B1 := Lib.hid (below_alloc (below_alloc (B0.out) (.cells #[.slice mA nm cm, .slice cA n c] 25)) (.cells #[.int .u64 (uv ea), .int .u64 (uv eb)] 28))
 have Hq3 := Lib.hid (show w.heap.size ≤ w.heap.size by have := B0.out.size; omega)
 have Hq4 := Lib.hid (show w.heap.size ≤ w.heap.size + 1 by have := B0.out.size; omega)
 clear B0
 generalize ((w.alloc (.cells #[.slice mA nm cm, .slice cA n c] 25)).alloc (.cells #[.int .u64 (uv ea), .int .u64 (uv eb)] 28)) = w1 at O3 O4 B1 ⊢
 obtain ⟨q4, hq4⟩ : ∃ q4, w.heap.size + 1 = q4 := ⟨_, rfl⟩
 rw [hq4] at O4 Hq4 ⊢
 clear hq4
 obtain ⟨q3, hq3⟩ : ∃ q3, w.heap.size = q3 := ⟨_, rfl⟩
 have Hq3 := Lib.hid (Nat.le_of_eq hq3)
 rw [hq3] at O3 ⊢
 clear hq3
 have KS := Lib.hid (show ∀ w', Below w1.heap.size w1 w' → (w'.cell? ⟨q3, 0, none⟩ = some (.slice mA nm cm) ∧ w'.cell? ⟨q3, 1, none⟩ = some (.slice cA n c) ∧ w'.cell? ⟨q4, 0, none⟩ = some (.int .u64 (uv ea)) ∧ w'.cell? ⟨q4, 1, none⟩ = some (.int .u64 (uv eb))) from fun w' hb => ⟨(O3.out.below hb O3.out.lt).cell 0, (O3.out.below hb O3.out.lt).cell 1, (O4.out.below hb O4.out.lt).cell 0, (O4.out.below hb O4.out.lt).cell 1⟩)
 obtain ⟨wd, hwd⟩ : ∃ wd, w1.drew = wd := ⟨_, rfl⟩
 have BD := Lib.hid (show Below w1.heap.size w1 wd from hwd ▸ below_drewN (Below.refl w1.heap.size w1) 1)
 have LD := Lib.hid (show w1.heap.size ≤ wd.heap.size from BD.out.size)
 refine wp_region_held_drew (S := fun w' => (w'.cell? ⟨q3, 0, none⟩ = some (.slice mA nm cm) ∧ w'.cell? ⟨q3, 1, none⟩ = some (.slice cA n c) ∧ w'.cell? ⟨q4, 0, none⟩ = some (.int .u64 (uv ea)) ∧ w'.cell? ⟨q4, 1, none⟩ = some (.int .u64 (uv eb)))) (by kernel_rfl) (hwd ▸ KS.out wd BD.out) (fun hHeld => ?_)
 refine tkq 0 13 rfl (by kernel_rfl) (by rfl) hHeld (fun _ _ _ h => h) (by intro w' hSw; go_simp; try with_reducible rfl) ?_
 simp only [Act.put, spa, spb, spc]
 refine tkq 1 14 rfl (by kernel_rfl) (by rfl) hHeld (fun _ _ _ h => h) (by intro w' hSw; go_simp; try with_reducible rfl) ?_
 simp only [Act.put, spa, spb, spc]
 refine rdq 2 ⟨some 15, _, _, _, _, _⟩ (by kernel_rfl) rfl (fun K' hK => ?_)
 go_simp
 refine (Sc.new_any wd).mono ?_
 rintro e wx ⟨rfl, hx⟩
 have OX := Lib.hid (show Ob wx wd.heap.size 80 (arr 16 Sc.zz ++ (arr 16 Sc.zz ++ [])) from by rw [← hx]; exact Ob.fresh wd 80 _)
 have BX := Lib.hid (show Below w1.heap.size w1 wx from by rw [← hx]; exact below_alloc BD.out _)
 clear hx
 refine hK.out _ _ (KS.out _ BX.out) (fun hHeld => ?_)
 clear hK K'
 refine rdq 3 ⟨some 16, _, _, _, _, _⟩ (by kernel_rfl) rfl (fun K' hK => ?_)
 go_simp
 refine (HNB.out wx wd.heap.size (HF.out.below (B1.out.trans (BX.out.mono B1.out.size))) (HT.out.below (B1.out.trans (BX.out.mono B1.out.size))) (HS.out.below (B1.out.trans (BX.out.mono B1.out.size))) (HM.out.below (B1.out.trans (BX.out.mono B1.out.size)))).mono ?_
 rintro e wy ⟨rfl, by_⟩
 have BY := Lib.hid (BX.out.trans (by_.mono BX.out.size))
 clear by_
 refine hK.out _ _ (KS.out _ BY.out) (fun hHeld => ?_)
 clear hK K'
 refine tkq 4 12 rfl (by kernel_rfl) (by rfl) hHeld (fun _ _ _ h => h) (by intro w' hSw; go_simp; try with_reducible rfl) ?_
 simp only [Act.put, spa, spb, spc]
 refine tkq 5 17 rfl (by kernel_rfl) (by rfl) hHeld (fun _ _ _ h => h) (by intro w' hSw; go_simp; try with_reducible rfl) ?_
 simp only [Act.put, spa, spb, spc]
 refine tkq 6 18 rfl (by kernel_rfl) (by rfl) hHeld (fun _ _ _ h => h) (by intro w' hSw; go_simp; try with_reducible rfl) ?_
 simp only [Act.put, spa, spb, spc]
 refine tkq 7 8 rfl (by kernel_rfl) (by rfl) hHeld (fun _ _ _ h => h) (by intro w' hSw; go_simp; try with_reducible rfl) ?_
 simp only [Act.put, spa, spb, spc]
 refine tkq 8 9 rfl (by kernel_rfl) (by rfl) hHeld (fun _ _ _ h => h) (by intro w' hSw; go_simp; try with_reducible rfl) ?_
 simp only [Act.put, spa, spb, spc]
 refine wpAnyH_done (by kernel_rfl) ?_ _
 clear hHeld KS hwd
 go_wp2_with fail
 go_ret2
 exact ⟨rfl, B1.out.trans (BY.out.mono B1.out.size)⟩

/-- the module that runs asks for -/
def rl : List InstV := [⟨13, 3, 0, 0, 1⟩, ⟨22, 0, 3, 0, 0⟩]
def rS1 : StV := stepS 6#64 7#64 ⟨13, 3, 0, 0, 1⟩ (st0 Sc.zz)
theorem rl_judged : (judV [] rl).2 = 0 := by kernel_rfl
theorem rl_right : rightV (rl.getD 0 ins0) = true ∧ rightV (rl.getD 1 ins0) = true := ⟨by kernel_rfl, by kernel_rfl⟩
def rA0 : ActV := ⟨1, 0, 0, 0, 0#64, 0#64, 0#64⟩
def rA1 : ActV := ⟨4, 1, 0, 0, 0#64, 0#64, 7#64⟩
theorem rstep0 (w : World) (g gs : Nat) (mA cA : Option Addr) (cm c : Nat) (ht : Sg.Tab w) (hgt : ¬ Tg g gs 0) (hap : ∀ a, mA = some a → ¬ Tg g gs a.block) (hc : Sl w cA (inss rl)) (hcp : ∀ a, cA = some a → ¬ Tg g gs a.block)
 (hM : MAt w g gs 6#64 7#64 (.slice mA 0 cm) (.slice cA 2 c) (st0 Sc.zz)) :
 Calls Tryd.prog 13 #[.pointer (some ⟨g, 0, none⟩)] w fun e w' => e = .returned (acVal rA0) ∧ MAt w' g gs 6#64 7#64 (.slice mA 0 cm) (.slice cA 2 c) rS1 ∧ Tch (Tg g gs) w w' :=
 step_any w g gs 6#64 7#64 mA cA 0 cm 2 c (st0 Sc.zz) [] rl rfl (by decide) rfl rfl (by decide) ⟨by decide, by decide⟩ rl_right.1 (fun h => by rcases h with h | h <;> exact absurd h (by decide)) (fun h => absurd h (by decide)) (fun _ _ => by decide)
  (fun _ _ => Int.le_refl _) ht hgt (Sl.nil _ _) hap hc hcp hM
theorem rstep1 (w : World) (g gs : Nat) (mA cA : Option Addr) (cm c : Nat) (ht : Sg.Tab w) (hgt : ¬ Tg g gs 0) (hap : ∀ a, mA = some a → ¬ Tg g gs a.block) (hc : Sl w cA (inss rl)) (hcp : ∀ a, cA = some a → ¬ Tg g gs a.block)
 (hM : MAt w g gs 6#64 7#64 (.slice mA 0 cm) (.slice cA 2 c) rS1) :
 Calls Tryd.prog 13 #[.pointer (some ⟨g, 0, none⟩)] w fun e w' => e = .returned (acVal rA1) ∧ Tch (Tg g gs) w w' :=
 (step_any w g gs 6#64 7#64 mA cA 0 cm 2 c rS1 [] rl rfl (by decide) rfl rfl (by decide) ⟨by decide, by decide⟩ rl_right.2 (fun h => by rcases h with h | h <;> exact absurd h (by decide)) (fun h => absurd h (by decide)) (fun _ h => absurd rfl h)
   (fun _ _ => Int.le_refl _) ht hgt (Sl.nil _ _) hap hc hcp hM).mono fun _ _ h => ⟨h.1, h.2.2⟩
theorem act_parts : (Tryd.prog.info? 57).map (fun i => (i.zero, i.size, i.bytes)) = some (some (.agg #[.int .i64 0, .int .i64 0, .int .i64 0, .int .i64 0, .int .u64 0, .int .u64 0, .int .u64 0]), 7, 56) := by kernel_rfl
theorem acc_one (a : ActV) : ∀ u ∈ acc a, u.oneCell' = true := by
 intro u hu
 simp only [acc, List.mem_cons, List.mem_nil_iff, or_false] at hu
 rcases hu with rfl | rfl | rfl | rfl | rfl | rfl | rfl <;> rfl

set_option maxRecDepth 100000 in
set_option maxHeartbeats 4000000 in
theorem trok_any (w : World) (cA : Option Addr) (c : Nat) (hc2 : 2 ≤ c) (hf : Frm w) (ht : Sg.Tab w) (hs : Sl w cA (inss rl)) (hgf : 1 < w.heap.size) (hgt : 0 < w.heap.size) (hcs : ∀ a, cA = some a → a.block < w.heap.size) :
 Calls Tryd.prog 7 #[.agg #[.slice none 0 0, .slice cA 2 c], .agg #[.int .u64 6, .int .u64 7], .slice none 0 0] w fun e w' => (∃ v, e = .returned (.tuple #[v, .int .i64 0]) ∧ w'.ownsRow w.heap.size 57 7 v 2 (acc rA0 ++ acc rA1)) ∧ Below w.heap.size w w' := by
 have HNW := Lib.hid (fun w gs hf ht hgf hgt hs hca ho => new_any w gs Sc.zz Sc.zz 6#64 7#64 rl [] none cA 0 0 2 c rfl hc2 rfl (Nat.le_refl _) (by omega) hf ht hgf hgt hs (Sl.nil w none) (fun h => by subst h; exact absurd (Sl.nil w none) (by exact fun _ => by obtain ⟨_, _, h, _⟩ := hs (by decide); cases h)) (fun _ => ⟨rfl, rfl⟩) rl_judged (by omega) (by omega) hca (fun a h => by cases h) ho)
 have HF := Lib.hid hf
 have HT := Lib.hid ht
 have HS := Lib.hid hs
 have HG := Lib.hid (And.intro hgf hgt)
 have HCS := Lib.hid hcs
 have B0 := Lib.hid (Below.refl w.heap.size w)
 clear hc2 hf ht hs hgf hgt hcs
 obtain ⟨i0, hi0, hz0, hz1, hz2⟩ := info_parts act_parts
 go_enter Tryd.func7, Tryd.ntmps7
 go_upto_region 1 with fail
 have O3 := Lib.hid (Ob.alloc (Ob.fresh w 25 [.slice none 0 0, .slice cA 2 c]) (.cells #[.int .u64 6, .int .u64 7] 28))
 have O4 := Lib.hid (Ob.fresh (w.alloc (.cells #[.slice none 0 0, .slice cA 2 c] 25)) 28 [.int .u64 6, .int .u64 7])
 rw [show (w.alloc (.cells #[.slice none 0 0, .slice cA 2 c] 25)).heap.size = w.heap.size + 1 by simp] at O4
 have B1 := Lib.hid (below_alloc (below_alloc (B0.out) (.cells #[.slice none 0 0, .slice cA 2 c] 25)) (.cells #[.int .u64 6, .int .u64 7] 28))
 have Hq3 := Lib.hid (show w.heap.size ≤ w.heap.size by have := B0.out.size; omega)
 have Hq4 := Lib.hid (show w.heap.size ≤ w.heap.size + 1 by have := B0.out.size; omega)
 clear B0
 generalize ((w.alloc (.cells #[.slice none 0 0, .slice cA 2 c] 25)).alloc (.cells #[.int .u64 6, .int .u64 7] 28)) = w1 at O3 O4 B1 ⊢
 obtain ⟨q4, hq4⟩ : ∃ q4, w.heap.size + 1 = q4 := ⟨_, rfl⟩
 rw [hq4] at O4 Hq4 ⊢
 clear hq4
 obtain ⟨q3, hq3⟩ : ∃ q3, w.heap.size = q3 := ⟨_, rfl⟩
 have Hq3 := Lib.hid (Nat.le_of_eq hq3)
 rw [hq3] at O3 ⊢
 clear hq3
 have KS := Lib.hid (show ∀ w', Below w1.heap.size w1 w' → (w'.cell? ⟨q3, 0, none⟩ = some (.slice none 0 0) ∧ w'.cell? ⟨q3, 1, none⟩ = some (.slice cA 2 c) ∧ w'.cell? ⟨q4, 0, none⟩ = some (.int .u64 6) ∧ w'.cell? ⟨q4, 1, none⟩ = some (.int .u64 7)) from fun w' hb => ⟨(O3.out.below hb O3.out.lt).cell 0, (O3.out.below hb O3.out.lt).cell 1, (O4.out.below hb O4.out.lt).cell 0, (O4.out.below hb O4.out.lt).cell 1⟩)
 obtain ⟨wd, hwd⟩ : ∃ wd, w1.drew = wd := ⟨_, rfl⟩
 have BD := Lib.hid (show Below w1.heap.size w1 wd from hwd ▸ below_drewN (Below.refl w1.heap.size w1) 1)
 have LD := Lib.hid (show w1.heap.size ≤ wd.heap.size from BD.out.size)
 refine wp_region_held_drew (S := fun w' => (w'.cell? ⟨q3, 0, none⟩ = some (.slice none 0 0) ∧ w'.cell? ⟨q3, 1, none⟩ = some (.slice cA 2 c) ∧ w'.cell? ⟨q4, 0, none⟩ = some (.int .u64 6) ∧ w'.cell? ⟨q4, 1, none⟩ = some (.int .u64 7))) (by kernel_rfl) (hwd ▸ KS.out wd BD.out) (fun hHeld => ?_)
 refine tkq 0 13 rfl (by kernel_rfl) (by rfl) hHeld (fun _ _ _ h => h) (by intro w' hSw; go_simp; try with_reducible rfl) ?_
 simp only [Act.put, spa, spb, spc]
 refine tkq 1 14 rfl (by kernel_rfl) (by rfl) hHeld (fun _ _ _ h => h) (by intro w' hSw; go_simp; try with_reducible rfl) ?_
 simp only [Act.put, spa, spb, spc]
 refine rdq 2 ⟨some 15, _, _, _, _, _⟩ (by kernel_rfl) rfl (fun K' hK => ?_)
 go_simp
 refine (Sc.new_any wd).mono ?_
 rintro e wx ⟨rfl, hx⟩
 have OX := Lib.hid (show Ob wx wd.heap.size 80 (arr 16 Sc.zz ++ (arr 16 Sc.zz ++ [])) from by rw [← hx]; exact Ob.fresh wd 80 _)
 have BX := Lib.hid (show Below w1.heap.size w1 wx from by rw [← hx]; exact below_alloc BD.out _)
 clear hx
 refine hK.out _ _ (KS.out _ BX.out) (fun hHeld => ?_)
 clear hK K'
 refine rdq 3 ⟨some 16, _, _, _, _, _⟩ (by kernel_rfl) rfl (fun K' hK => ?_)
 go_simp
 refine (HNW.out wx wd.heap.size (HF.out.below (B1.out.trans (BX.out.mono B1.out.size))) (HT.out.below (B1.out.trans (BX.out.mono B1.out.size))) (by have := HG.out.1; have := B1.out.size; have := LD.out; omega) (by have := HG.out.2; have := B1.out.size; have := LD.out; omega) (HS.out.below (B1.out.trans (BX.out.mono B1.out.size))) (fun a h => by have := HCS.out a h; have := B1.out.size; have := LD.out; omega) OX.out).mono ?_
 rintro e wy ⟨g, mA', cm', cA', cc', rfl, hM, hg, _, hsc, hma, hca, tk⟩
 have MY := Lib.hid hM
 have SC := Lib.hid hsc
 have HMA := Lib.hid (show ∀ a, mA' = some a → ¬ Tg g wd.heap.size a.block from fun a h e => by have h1 := hma a h; have h2 := OX.out.lt; rcases e with e | e <;> omega)
 have HCA := Lib.hid (show ∀ a, cA' = some a → ¬ Tg g wd.heap.size a.block from fun a h e => by have h1 := hca a h; have h2 := OX.out.lt; rcases e with e | e <;> omega)
 have BY := Lib.hid (show Below w1.heap.size w1 wy from Tch.below tk BX.out BX.out.size (fun i hi e => by have := LD.out; omega))
 have HGG := Lib.hid (show w1.heap.size ≤ g ∧ g < wy.heap.size ∧ wd.heap.size < wy.heap.size from ⟨Nat.le_trans BX.out.size hg, hM.o.lt, hM.s.lt⟩)
 clear hM hg hsc hma hca tk
 refine hK.out _ _ (KS.out _ BY.out) (fun hHeld => ?_)
 clear hK K'
 refine tkq 4 12 rfl (by kernel_rfl) (by rfl) hHeld (fun _ _ _ h => h) (by intro w' hSw; go_simp; try with_reducible rfl) ?_
 simp only [Act.put, spa, spb, spc]
 refine tkq 5 17 rfl (by kernel_rfl) (by rfl) hHeld (fun _ _ _ h => h) (by intro w' hSw; go_simp; try with_reducible rfl) ?_
 simp only [Act.put, spa, spb, spc]
 refine tkq 6 18 rfl (by kernel_rfl) (by rfl) hHeld (fun _ _ _ h => h) (by intro w' hSw; go_simp; try with_reducible rfl) ?_
 simp only [Act.put, spa, spb, spc]
 refine tkq 7 8 rfl (by kernel_rfl) (by rfl) hHeld (fun _ _ _ h => h) (by intro w' hSw; go_simp; try with_reducible rfl) ?_
 simp only [Act.put, spa, spb, spc]
 refine tkq 8 9 rfl (by kernel_rfl) (by rfl) hHeld (fun _ _ _ h => h) (by intro w' hSw; go_simp; try with_reducible rfl) ?_
 simp only [Act.put, spa, spb, spc]
 refine wpAnyH_done (by kernel_rfl) ?_ _
 clear hHeld KS hwd
 have B2 := Lib.hid (B1.out.trans (BY.out.mono B1.out.size))
 have HGT := Lib.hid (show ¬ Tg g wd.heap.size 0 from fun e => by have h1 := HG.out.2; have h2 := B1.out.size; have h3 := LD.out; have h4 := HGG.out; rcases e with e | e <;> omega)
 have HLG := Lib.hid (show w.heap.size ≤ g ∧ w.heap.size ≤ wd.heap.size from ⟨Nat.le_trans B1.out.size HGG.out.1, Nat.le_trans B1.out.size LD.out⟩)
 have HB := Lib.hid (show ∀ i, Tg g wd.heap.size i → i < wy.heap.size from fun i e => by have := HGG.out; rcases e with e | e <;> omega)
 clear B1 BY BX OX O3 O4 BD LD HNW Hq3 Hq4
 generalize wd.heap.size = gs at MY HMA HCA HGG HGT HLG HB ⊢
 go_wp2_with fail
 go_loopw [10] (fun u wr => ((wr.ownsRow wy.heap.size 57 7 u 0 [] ∧ wy = wr) ∨ (wr.ownsRow wy.heap.size 57 7 u 1 (acc rA0) ∧ MAt wr g gs 6#64 7#64 (.slice mA' 0 cm') (.slice cA' 2 cc') rS1 ∧ Tch (Tg g gs) wy wr))) (fun u _ => 1 - lenV u)
 case atStart => exact .inl ⟨World.ownsRow_nil _ _ _ _, rfl⟩
 case round =>
  rcases hrel with ⟨hown, rfl⟩ | ⟨hown, hM, tk⟩
  · have hln := own_len hown
    have HU := Lib.hid hown
    have HLT := Lib.hid (show ∀ b, u10.ownBlock = some b → b < wy.heap.size ∧ wy.heap.size ≤ b from fun b hb => ⟨(hown.lt b hb).2, (hown.lt b hb).1⟩)
    clear hown
    go_wp2_with fail
    refine (rstep0 wy g gs mA' cA' cm' cc' (HT.out.below B2.out) HGT.out HMA.out SC.out HCA.out MY.out).mono ?_
    rintro e w3 ⟨rfl, m3, t3⟩
    have W4 := Lib.hid (World.ownsRow.alloc (own_tchB HU.out t3 HB.out) (.cells #[.int .i64 1, .int .i64 0, .int .i64 0, .int .i64 0, .int .u64 0, .int .u64 0, .int .u64 0] 57))
    have M4 := Lib.hid (m3.alloc (.cells #[.int .i64 1, .int .i64 0, .int .i64 0, .int .i64 0, .int .u64 0, .int .u64 0, .int .u64 0] 57))
    have T4 := Lib.hid (t3.trans (Tch.of_below (below_alloc (Below.refl w3.heap.size w3) (.cells #[.int .i64 1, .int .i64 0, .int .i64 0, .int .i64 0, .int .u64 0, .int .u64 0, .int .u64 0] 57))))
    have OA := Lib.hid (Ob.fresh w3 57 [.int .i64 1, .int .i64 0, .int .i64 0, .int .i64 0, .int .u64 0, .int .u64 0, .int .u64 0])
    clear m3 t3
    rw [show acVal rA0 = .agg #[.int .i64 1, .int .i64 0, .int .i64 0, .int .i64 0, .int .u64 0, .int .u64 0, .int .u64 0] from rfl]
    go_upto_region 6 with fail
    generalize w3.alloc (.cells #[.int .i64 1, .int .i64 0, .int .i64 0, .int .i64 0, .int .u64 0, .int .u64 0, .int .u64 0] 57) = w4 at OA M4 W4 T4 ⊢
    generalize w3.heap.size = q11 at OA ⊢
    have a0 := OA.out.c0
    have a1 := OA.out.c1
    have a2 := OA.out.c2
    have a3 := OA.out.c3
    have a4 := OA.out.c4
    have a5 := OA.out.c5
    have a6 := OA.out.c6
    go_wp2_with
    (at_builtin
     refine wpList_append_sl _ rfl (.tmp 24) (.tmp 26) _ rfl wy.heap.size 57 i0 _ 7 56 Tryd.underlying37 hi0 hz0 hz1 hz2 rfl (by omega) (u10) 0 [] rfl (World.ownsRow.alloc W4.out _)
      (some ⟨w4.heap.size, 0, none⟩) 1 1 (acc rA0) rfl rfl (Sl.fresh w4 (acc rA0).toArray 57 (0, 0)) (acc_one _) (by simp only [maxLen]; omega) (by omega) (Nat.le_trans T4.out.size (below_alloc (Below.refl w4.heap.size w4) (.cells (acc rA0).toArray 57)).size) ?_
     intro v2 w5 hown hgr hv2
     have HR := Lib.hid hown
     have G5 := Lib.hid (Tch.of_grown hgr)
     have OA5 := Lib.hid (Ob.tch (OA.out.alloc (.cells (acc rA0).toArray 57)) G5.out (fun e => by have := HLT.out _ e; omega))
     have a0 := OA5.out.c0
     clear a1 a2 a3 a4 a5 a6 hown hgr hv2)
    have M5 := (M4.out.alloc (.cells (acc rA0).toArray 57)).tch G5.out (fun e => by have := HLT.out _ e; omega) (fun e => by have := HLT.out _ e; omega)
    have T5 := (T4.out.trans (Tch.of_below (below_alloc (Below.refl w4.heap.size w4) (.cells (acc rA0).toArray 57)))).trans (G5.out.mono (S' := Tg g gs) fun i e => by have := HLT.out _ e; omega)
    exact ⟨.inr ⟨HR.out, M5, T5⟩, by rw [own_len HR.out, hln]; decide⟩
  have B3 := Lib.hid (Tch.below tk B2.out B2.out.size (fun i hi e => by have := HLG.out; rcases e with e | e <;> omega))
  have hln := own_len hown
  have HSC := Lib.hid (sl_tch SC.out tk HCA.out)
  have HLT := Lib.hid (show ∀ b, u10.ownBlock = some b → b < wr.heap.size from fun b hb => (hown.lt b hb).2)
  have HLW := Lib.hid (show ∀ b, u10.ownBlock = some b → wy.heap.size ≤ b from fun b hb => (hown.lt b hb).1)
  go_wp2_with fail
  refine (rstep1 wr g gs mA' cA' cm' cc' (HT.out.below B3.out) HGT.out HMA.out HSC.out HCA.out hM).mono ?_
  rintro e w3 ⟨rfl, t3⟩
  have W4 := Lib.hid (World.ownsRow.alloc (own_tchB hown t3 HB.out) (.cells #[.int .i64 4, .int .i64 1, .int .i64 0, .int .i64 0, .int .u64 0, .int .u64 0, .int .u64 7] 57))
  have T4 := Lib.hid ((tk.trans t3).trans (Tch.of_below (below_alloc (Below.refl w3.heap.size w3) (.cells #[.int .i64 4, .int .i64 1, .int .i64 0, .int .i64 0, .int .u64 0, .int .u64 0, .int .u64 7] 57))))
  have HQ := Lib.hid (show ∀ b, u10.ownBlock = some b → w3.heap.size ≠ b from fun b hb e => by have h1 := HLT.out b hb; have h2 := t3.size; omega)
  clear tk hown hM HLT HSC B3
  have OA := Lib.hid (Ob.fresh w3 57 [.int .i64 4, .int .i64 1, .int .i64 0, .int .i64 0, .int .u64 0, .int .u64 0, .int .u64 7])
  clear t3
  rw [show acVal rA1 = .agg #[.int .i64 4, .int .i64 1, .int .i64 0, .int .i64 0, .int .u64 0, .int .u64 0, .int .u64 7] from rfl]
  go_upto_region 6 with fail
  generalize w3.alloc (.cells #[.int .i64 4, .int .i64 1, .int .i64 0, .int .i64 0, .int .u64 0, .int .u64 0, .int .u64 7] 57) = w4 at OA W4 T4 ⊢
  generalize w3.heap.size = q11 at OA HQ ⊢
  have a0 := OA.out.c0
  have a1 := OA.out.c1
  have a2 := OA.out.c2
  have a3 := OA.out.c3
  have a4 := OA.out.c4
  have a5 := OA.out.c5
  have a6 := OA.out.c6
  go_wp2_with
  (at_builtin
   refine wpList_append_sl _ rfl (.tmp 24) (.tmp 26) _ rfl wy.heap.size 57 i0 _ 7 56 Tryd.underlying37 hi0 hz0 hz1 hz2 rfl (by omega) (u10) 1 (acc rA0) rfl (World.ownsRow.alloc W4.out _)
    (some ⟨w4.heap.size, 0, none⟩) 1 1 (acc rA1) rfl rfl (Sl.fresh w4 (acc rA1).toArray 57 (0, 0)) (acc_one _) (by simp only [maxLen]; omega) (by omega) (Nat.le_trans T4.out.size (below_alloc (Below.refl w4.heap.size w4) (.cells (acc rA1).toArray 57)).size) ?_
   intro v2 w5 hown hgr hv2
   have HR := Lib.hid hown
   have G5 := Lib.hid (Tch.of_grown hgr)
   have OA5 := Lib.hid (Ob.tch (OA.out.alloc (.cells (acc rA1).toArray 57)) G5.out (fun e => HQ.out _ e rfl))
   have a0 := OA5.out.c0
   clear a1 a2 a3 a4 a5 a6 hown hgr hv2)
  go_ret2
  have T5 := (T4.out.trans (Tch.of_below (below_alloc (Below.refl w4.heap.size w4) (.cells (acc rA1).toArray 57)))).then (S := Tg g gs) G5.out (fun _ e => e) (fun i e hi => by have := HLW.out i e; omega)
  exact ⟨⟨_, rfl, own_base HR.out B2.out.size⟩, Tch.below T5 B2.out B2.out.size (fun i hi e => by have := HLG.out; rcases e with e | e <;> omega)⟩

set_option maxRecDepth 100000 in
set_option maxHeartbeats 4000000 in
theorem runs_any (w : World) (hf : Frm w) (ht : Sg.Tab w) : Calls Tryd.prog 4 #[] w fun e w' => e = .returned (.bool true) ∧ Below w.heap.size w w' := by
 have hb := below_alloc (Below.refl w.heap.size w) (.cells #[.int .i64 13, .int .i64 3, .int .i64 0, .int .i64 0, .int .i64 1, .int .i64 22, .int .i64 0, .int .i64 3, .int .i64 0, .int .i64 0] 70)
 have hsz : (w.alloc (.cells #[.int .i64 13, .int .i64 3, .int .i64 0, .int .i64 0, .int .i64 1, .int .i64 22, .int .i64 0, .int .i64 3, .int .i64 0, .int .i64 0] 70)).heap.size = w.heap.size + 1 := by simp
 have HTR := Lib.hid (trok_any (w.alloc (.cells #[.int .i64 13, .int .i64 3, .int .i64 0, .int .i64 0, .int .i64 1, .int .i64 22, .int .i64 0, .int .i64 3, .int .i64 0, .int .i64 0] 70)) (some ⟨w.heap.size, 0, none⟩) 2 (Nat.le_refl _) (hf.below hb) (ht.below hb) (Sl.fresh w #[.int .i64 13, .int .i64 3, .int .i64 0, .int .i64 0, .int .i64 1, .int .i64 22, .int .i64 0, .int .i64 3, .int .i64 0, .int .i64 0] 70 (0, 0)) (Nat.lt_of_lt_of_le hf.lt hb.size) (Nat.lt_of_lt_of_le ht.lt hb.size) (fun a h => by injection h with h; subst h; rw [hsz]; exact Nat.lt_succ_self _))
 have B1 := Lib.hid hb
 clear hf ht hb hsz
 go_enter Tryd.func4, Tryd.ntmps4
 go_wp2_with fail
 refine HTR.out.mono ?_
 rintro e w2 ⟨⟨v, rfl, hown⟩, b2⟩
 obtain ⟨A, c, rfl, hc2, _, hsl, _⟩ := own_form hown
 obtain ⟨b, o, rfl, hc⟩ := hsl (by decide)
 have B2 := Lib.hid (B1.out.trans (b2.mono B1.out.size))
 have c0 : w2.cell? ⟨b, o + 7, none⟩ = some (.int .i64 4) := hc 7 (by decide)
 have c1 : w2.cell? ⟨b, o + 7 + 1, none⟩ = some (.int .i64 1) := hc 8 (by decide)
 have c2 : w2.cell? ⟨b, o + 7 + 2, none⟩ = some (.int .i64 0) := hc 9 (by decide)
 have c3 : w2.cell? ⟨b, o + 7 + 3, none⟩ = some (.int .i64 0) := hc 10 (by decide)
 have c4 : w2.cell? ⟨b, o + 7 + 4, none⟩ = some (.int .u64 0) := hc 11 (by decide)
 have c5 : w2.cell? ⟨b, o + 7 + 5, none⟩ = some (.int .u64 0) := hc 12 (by decide)
 have c6 : w2.cell? ⟨b, o + 7 + 6, none⟩ = some (.int .u64 7) := hc 13 (by decide)
 clear hown hsl hc b2 B1 HTR hc2
 go_wp2_with fail
 go_ret
 exact ⟨rfl, B2.out⟩
end Go.Proofs.YtjcffmcafjineaaDoor.Tp
end
