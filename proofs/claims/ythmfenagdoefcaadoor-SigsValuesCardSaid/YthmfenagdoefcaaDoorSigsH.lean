/-
  The walk of the law SigsValues. Conditions: those of each theorem.
-/
import Derived.Test.YthmfenagdoefcaaDoorSigsL
namespace Go.Proofs.YthmfenagdoefcaaDoor
open Go.RowKit

theorem vl_le (y : Nat) (r : ResV) (hy : y < 7) (h1 : r.val ≤ 18446744073709551615) : vlOf y r ≤ (rsT y).hi := by
  unfold rsT vlOf
  rw [if_pos hy]
  rcases y_cases hy with rfl | rfl | rfl | rfl | rfl | rfl | rfl
  all_goals simp [msU]
  all_goals first
    | exact h1
    | (split <;> omega)

set_option maxRecDepth 100000 in
set_option maxHeartbeats 8000000 in
theorem values_walk (w : World) (h : Int) (re : Int) (rf : Bool) (rv : Int) (ro : Bool) (rk rov : Int) (hv1 : rv ≤ 18446744073709551615) (ht : Tab w) :
    Calls Tryd.prog 6 #[.int .i64 h, .agg #[.int .i64 re, .bool rf, .int .u64 rv, .bool ro, .int .u64 rk, .int .u64 rov]] w fun e w' => e = .returned (.bool true) ∧ Below w.heap.size w w' := by
  have HT0 : Hid (Tab (w.alloc (.cells #[.int .i64 re, .bool rf, .int .u64 rv, .bool ro, .int .u64 rk, .int .u64 rov] 45))) := Lib.hid (ht.below (below_alloc (Below.refl _ _) _))
  have O0 := Lib.hid (Ob.fresh w 45 [.int .i64 re, .bool rf, .int .u64 rv, .bool ro, .int .u64 rk, .int .u64 rov])
  have B0 := Lib.hid (below_alloc (Below.refl w.heap.size w) (.cells #[.int .i64 re, .bool rf, .int .u64 rv, .bool ro, .int .u64 rk, .int .u64 rov] 45))
  have HV := Lib.hid (fun (z : Int) (w : World) => value_any w z ⟨re, rf, rv, ro, rk, rov⟩)
  have HRV := Lib.hid (fun (z : Int) (w : World) => rvalue_any w z ⟨re, rf, rv, ro, rk, rov⟩)
  have HLE := Lib.hid (fun (z : Int) (hz : hI z < 7) => vl_le (hI z) ⟨re, rf, rv, ro, rk, rov⟩ hz hv1)
  unfold reVal at HV HRV
  dsimp only at HV HRV
  clear ht hv1
  go_enter Tryd.func6, Tryd.ntmps6
  go_upto_region 1 with fail
  generalize w.alloc (.cells #[.int .i64 re, .bool rf, .int .u64 rv, .bool ro, .int .u64 rk, .int .u64 rov] 45) = w0 at HT0 O0 B0 ⊢
  obtain ⟨q, hq⟩ : ∃ q, w.heap.size = q := ⟨_, rfl⟩
  rw [hq] at O0 ⊢
  clear hq
  go_wp2_with fail
  refine (awake_any w0 HT0.out).mono ?_
  rintro e wa ⟨rfl, ba⟩
  have HTA := Lib.hid (HT0.out.below ba)
  have OA := Lib.hid (O0.out.below ba O0.out.lt)
  have BA := Lib.hid (B0.out.trans (ba.mono B0.out.size))
  clear ba HT0 O0 B0
  go_wp2_with fail
  go_loopw [5] (fun i wr => ∃ z : Int, -1 ≤ z ∧ z ≤ 8 ∧ i = .int .i64 z ∧ Below wa.heap.size wa wr) (fun i _ => (8 - intOf i).toNat)
  case atStart => exact ⟨-1, by omega, by omega, rfl, Below.refl _ _⟩
  case round =>
    obtain ⟨z, hz1, hz8, rfl, hb⟩ := hrel
    have BB := Lib.hid hb
    have OR := Lib.hid (OA.out.below hb OA.out.lt)
    clear hb
    by_cases hlt : z < 8
    · have HVz := Lib.hid (HV.out z)
      have HRVz := Lib.hid (HRV.out z)
      obtain ⟨vv, hvv⟩ : ∃ v, vlOf (hI z) ⟨re, rf, rv, ro, rk, rov⟩ = v := ⟨_, rfl⟩
      have HLz := Lib.hid (fun hz => HLE.out z hz)
      rw [hvv] at HVz HRVz HLz
      clear hvv
      have a0 : wr.cell? ⟨q, 0, none⟩ = some (.int .i64 re) := OR.out.cell 0
      have a1 : wr.cell? ⟨q, 1, none⟩ = some (.bool rf) := OR.out.cell 1
      have a2 : wr.cell? ⟨q, 2, none⟩ = some (.int .u64 rv) := OR.out.cell 2
      have a3 : wr.cell? ⟨q, 3, none⟩ = some (.bool ro) := OR.out.cell 3
      have a4 : wr.cell? ⟨q, 4, none⟩ = some (.int .u64 rk) := OR.out.cell 4
      have a5 : wr.cell? ⟨q, 5, none⟩ = some (.int .u64 rov) := OR.out.cell 5
      go_wp2_with fail
      go_region_held3 (fun w' => w'.cell? ⟨q, 0, none⟩ = some (.int .i64 re) ∧ w'.cell? ⟨q, 1, none⟩ = some (.bool rf) ∧ w'.cell? ⟨q, 2, none⟩ = some (.int .u64 rv) ∧ w'.cell? ⟨q, 3, none⟩ = some (.bool ro) ∧ w'.cell? ⟨q, 4, none⟩ = some (.int .u64 rk) ∧ w'.cell? ⟨q, 5, none⟩ = some (.int .u64 rov)) (go_keep)
        (first
         | (go_at_call 17
            refine (HVz.out wr.drew).mono ?_
            rintro e w5 ⟨rfl, b5⟩
            have B5a := Lib.hid ((below_drewN BB.out 1).trans (b5.mono (below_drewN BB.out 1).size))
            have O5a := Lib.hid (OR.out.drew.below b5 OR.out.drew.lt)
            have d0 : w5.cell? ⟨q, 0, none⟩ = some (.int .i64 re) := O5a.out.cell 0
            have d1 : w5.cell? ⟨q, 1, none⟩ = some (.bool rf) := O5a.out.cell 1
            have d2 : w5.cell? ⟨q, 2, none⟩ = some (.int .u64 rv) := O5a.out.cell 2
            have d3 : w5.cell? ⟨q, 3, none⟩ = some (.bool ro) := O5a.out.cell 3
            have d4 : w5.cell? ⟨q, 4, none⟩ = some (.int .u64 rk) := O5a.out.cell 4
            have d5 : w5.cell? ⟨q, 5, none⟩ = some (.int .u64 rov) := O5a.out.cell 5
            clear b5)
         | (go_at_call 18
            refine (HRVz.out w5).mono ?_
            rintro e w6 ⟨rfl, b6⟩
            have B6a := Lib.hid (B5a.out.trans (b6.mono B5a.out.size))
            have O6a := Lib.hid (O5a.out.below b6 O5a.out.lt)
            have e0 : w6.cell? ⟨q, 0, none⟩ = some (.int .i64 re) := O6a.out.cell 0
            have e1 : w6.cell? ⟨q, 1, none⟩ = some (.bool rf) := O6a.out.cell 1
            have e2 : w6.cell? ⟨q, 2, none⟩ = some (.int .u64 rv) := O6a.out.cell 2
            have e3 : w6.cell? ⟨q, 3, none⟩ = some (.bool ro) := O6a.out.cell 3
            have e4 : w6.cell? ⟨q, 4, none⟩ = some (.int .u64 rk) := O6a.out.cell 4
            have e5 : w6.cell? ⟨q, 5, none⟩ = some (.int .u64 rov) := O6a.out.cell 5
            clear b6))
      clear a0 a1 a2 a3 a4 a5 d0 d1 d2 d3 d4 d5 e0 e1 e2 e3 e4 e5
      go_wp2_with fail
      refine (result_any w6 z (HTA.out.below B6a.out)).mono ?_
      rintro e w7 ⟨rfl, b7⟩
      have B7 := Lib.hid (B6a.out.trans (b7.mono B6a.out.size))
      have O7 := Lib.hid (O6a.out.below b7 O6a.out.lt)
      clear b7
      unfold tyVal
      obtain ⟨t, hty⟩ : ∃ t, rsT (hI z) = t := ⟨_, rfl⟩
      rw [hty] at HLz ⊢
      clear hty
      obtain ⟨tk, tl, th, tm⟩ := t
      dsimp only at HLz ⊢
      have B8 := Lib.hid (below_alloc B7.out (.cells #[.int .i64 tk, .int .u64 tl, .int .u64 th, .int .i64 tm] 31))
      have O8 := Lib.hid (O7.out.alloc (.cells #[.int .i64 tk, .int .u64 tl, .int .u64 th, .int .i64 tm] 31))
      have P8 := Lib.hid (Ob.fresh w7 31 [.int .i64 tk, .int .u64 tl, .int .u64 th, .int .i64 tm])
      go_upto_region 9 with fail
      generalize w7.alloc (.cells #[.int .i64 tk, .int .u64 tl, .int .u64 th, .int .i64 tm] 31) = w8 at B8 O8 P8 ⊢
      generalize w7.heap.size = p at P8 ⊢
      by_cases h7 : hI z < 7
      · rw [show decide (hI z < 7) = true from decide_eq_true h7]
        have hgt : ¬ th < vv := by have := HLz.out h7; omega
        clear h7
        have a0 : w8.cell? ⟨q, 0, none⟩ = some (.int .i64 re) := O8.out.cell 0
        have a1 : w8.cell? ⟨q, 1, none⟩ = some (.bool rf) := O8.out.cell 1
        have a2 : w8.cell? ⟨q, 2, none⟩ = some (.int .u64 rv) := O8.out.cell 2
        have a3 : w8.cell? ⟨q, 3, none⟩ = some (.bool ro) := O8.out.cell 3
        have a4 : w8.cell? ⟨q, 4, none⟩ = some (.int .u64 rk) := O8.out.cell 4
        have a5 : w8.cell? ⟨q, 5, none⟩ = some (.int .u64 rov) := O8.out.cell 5
        have c2 : w8.cell? ⟨p, 2, none⟩ = some (.int .u64 th) := P8.out.cell 2
        go_region_held3 (fun w' => w'.cell? ⟨q, 0, none⟩ = some (.int .i64 re) ∧ w'.cell? ⟨q, 1, none⟩ = some (.bool rf) ∧ w'.cell? ⟨q, 2, none⟩ = some (.int .u64 rv) ∧ w'.cell? ⟨q, 3, none⟩ = some (.bool ro) ∧ w'.cell? ⟨q, 4, none⟩ = some (.int .u64 rk) ∧ w'.cell? ⟨q, 5, none⟩ = some (.int .u64 rov) ∧ w'.cell? ⟨p, 2, none⟩ = some (.int .u64 th)) (go_keep)
          (first
           | (go_at_call 17
              refine (HVz.out w8.drew).mono ?_
              rintro e w9 ⟨rfl, b9⟩
              have B9 := Lib.hid ((below_drewN B8.out 1).trans (b9.mono (below_drewN B8.out 1).size))
              have O9 := Lib.hid (O8.out.drew.below b9 O8.out.drew.lt)
              have P9 := Lib.hid (P8.out.drew.below b9 P8.out.drew.lt)
              have f0 : w9.cell? ⟨q, 0, none⟩ = some (.int .i64 re) := O9.out.cell 0
              have f1 : w9.cell? ⟨q, 1, none⟩ = some (.bool rf) := O9.out.cell 1
              have f2 : w9.cell? ⟨q, 2, none⟩ = some (.int .u64 rv) := O9.out.cell 2
              have f3 : w9.cell? ⟨q, 3, none⟩ = some (.bool ro) := O9.out.cell 3
              have f4 : w9.cell? ⟨q, 4, none⟩ = some (.int .u64 rk) := O9.out.cell 4
              have f5 : w9.cell? ⟨q, 5, none⟩ = some (.int .u64 rov) := O9.out.cell 5
              have g2 : w9.cell? ⟨p, 2, none⟩ = some (.int .u64 th) := P9.out.cell 2
              clear b9))
        go_wp2_with fail
        go_roundw
        case rel => exact ⟨z + 1, by omega, by omega, by go_num, B9.out⟩
        case measure => simp [intOf]; omega
      · rw [show decide (hI z < 7) = false from decide_eq_false h7]
        clear h7
        go_quiet (fail)
        go_wp2_with fail
        go_roundw
        case rel => exact ⟨z + 1, by omega, by omega, by go_num, below_drewN B8.out _⟩
        case measure => simp [intOf]; omega
    · have HVh := Lib.hid (HV.out h)
      have HRVh := Lib.hid (HRV.out h)
      obtain ⟨vv, hvv⟩ : ∃ v, vlOf (hI h) ⟨re, rf, rv, ro, rk, rov⟩ = v := ⟨_, rfl⟩
      rw [hvv] at HVh HRVh
      clear hvv
      have a0 : wr.cell? ⟨q, 0, none⟩ = some (.int .i64 re) := OR.out.cell 0
      have a1 : wr.cell? ⟨q, 1, none⟩ = some (.bool rf) := OR.out.cell 1
      have a2 : wr.cell? ⟨q, 2, none⟩ = some (.int .u64 rv) := OR.out.cell 2
      have a3 : wr.cell? ⟨q, 3, none⟩ = some (.bool ro) := OR.out.cell 3
      have a4 : wr.cell? ⟨q, 4, none⟩ = some (.int .u64 rk) := OR.out.cell 4
      have a5 : wr.cell? ⟨q, 5, none⟩ = some (.int .u64 rov) := OR.out.cell 5
      go_wp2_with fail
      go_region_held3 (fun w' => w'.cell? ⟨q, 0, none⟩ = some (.int .i64 re) ∧ w'.cell? ⟨q, 1, none⟩ = some (.bool rf) ∧ w'.cell? ⟨q, 2, none⟩ = some (.int .u64 rv) ∧ w'.cell? ⟨q, 3, none⟩ = some (.bool ro) ∧ w'.cell? ⟨q, 4, none⟩ = some (.int .u64 rk) ∧ w'.cell? ⟨q, 5, none⟩ = some (.int .u64 rov)) (go_keep)
        (first
         | (go_at_call 17
            refine (HVh.out wr.drew).mono ?_
            rintro e w5 ⟨rfl, b5⟩
            have B5b := Lib.hid ((below_drewN BB.out 1).trans (b5.mono (below_drewN BB.out 1).size))
            have O5b := Lib.hid (OR.out.drew.below b5 OR.out.drew.lt)
            have d0 : w5.cell? ⟨q, 0, none⟩ = some (.int .i64 re) := O5b.out.cell 0
            have d1 : w5.cell? ⟨q, 1, none⟩ = some (.bool rf) := O5b.out.cell 1
            have d2 : w5.cell? ⟨q, 2, none⟩ = some (.int .u64 rv) := O5b.out.cell 2
            have d3 : w5.cell? ⟨q, 3, none⟩ = some (.bool ro) := O5b.out.cell 3
            have d4 : w5.cell? ⟨q, 4, none⟩ = some (.int .u64 rk) := O5b.out.cell 4
            have d5 : w5.cell? ⟨q, 5, none⟩ = some (.int .u64 rov) := O5b.out.cell 5
            clear b5)
         | (go_at_call 18
            refine (HRVh.out w5).mono ?_
            rintro e w6 ⟨rfl, b6⟩
            have B6b := Lib.hid (B5b.out.trans (b6.mono B5b.out.size))
            have O6b := Lib.hid (O5b.out.below b6 O5b.out.lt)
            have e0 : w6.cell? ⟨q, 0, none⟩ = some (.int .i64 re) := O6b.out.cell 0
            have e1 : w6.cell? ⟨q, 1, none⟩ = some (.bool rf) := O6b.out.cell 1
            have e2 : w6.cell? ⟨q, 2, none⟩ = some (.int .u64 rv) := O6b.out.cell 2
            have e3 : w6.cell? ⟨q, 3, none⟩ = some (.bool ro) := O6b.out.cell 3
            have e4 : w6.cell? ⟨q, 4, none⟩ = some (.int .u64 rk) := O6b.out.cell 4
            have e5 : w6.cell? ⟨q, 5, none⟩ = some (.int .u64 rov) := O6b.out.cell 5
            clear b6))
      go_wp2_with fail
      go_ret
      exact ⟨rfl, BA.out.trans (B6b.out.mono BA.out.size)⟩

/-- a result that came in -/
def RdRes (_ : World) (v : Value) (r : ResV) : Prop := v = reVal r ∧ r.val ≤ 18446744073709551615
theorem open_res {H : Type} {enc : TypeId × Value → H} {w : World} {base b0 : Nat} {sp : Nat → Bool} {held : Bool} {fuel : Nat} {v : Value} {x : DataW H × List MemPlace}
    (hv : Value.okWide Tryd.prog w .any b0 45 v) (h : DataW.trod enc Tryd.prog w base sp held fuel 45 v.cells.toList = some x) : ∃ r, RdRes w v r := by
  obtain ⟨cs, rfl, hcs⟩ := Go.WideShapes.okWide_struct Tryd.underlying45 hv
  obtain ⟨xs, n, rfl, hx, hl, hxl, hall⟩ := DataW.trod_struct Tryd.underlying45 h
  have h0 := hall 0 _ rfl
  have h1 := hall 1 _ rfl
  have h2 := hall 2 _ rfl
  have h3 := hall 3 _ rfl
  have h4 := hall 4 _ rfl
  have h5 := hall 5 _ rfl
  have hc : cs.size = 6 := hcs.trans (by kernel_rfl)
  have hxl6 : xs.length = 6 := hxl
  clear hall hl hx
  match xs, hxl6 with
  | [x0, x1, x2, x3, x4, x5], _ =>
  obtain ⟨l⟩ := cs
  have hc6 : l.length = 6 := by simpa using hc
  match l, hc6 with
  | [c0, c1, c2, c3, c4, c5], _ =>
  obtain ⟨n0, q0, _, _⟩ := DataW.trod_int Tryd.underlying33 (x := x0) h0
  obtain ⟨n1, q1, _⟩ := DataW.trod_bool Tryd.underlying4 (x := x1) h1
  obtain ⟨n2, q2, _, wf⟩ := DataW.trod_int Tryd.underlying27 (x := x2) h2
  obtain ⟨n3, q3, _⟩ := DataW.trod_bool Tryd.underlying4 (x := x3) h3
  obtain ⟨n4, q4, _, _⟩ := DataW.trod_int Tryd.underlying27 (x := x4) h4
  obtain ⟨n5, q5, _, _⟩ := DataW.trod_int Tryd.underlying27 (x := x5) h5
  have g0 : [c0] = [.int .i64 n0] := q0
  have g1 : [c1] = [.bool n1] := q1
  have g2 : [c2] = [.int .u64 n2] := q2
  have g3 : [c3] = [.bool n3] := q3
  have g4 : [c4] = [.int .u64 n4] := q4
  have g5 : [c5] = [.int .u64 n5] := q5
  simp only [List.cons.injEq, and_true] at g0 g1 g2 g3 g4 g5
  subst g0 g1 g2 g3 g4 g5
  refine ⟨⟨n0, n1, n2, n3, n4, n5⟩, rfl, ?_⟩
  simp [Lit.wf, IntKind.min, IntKind.max, IntKind.signed, IntKind.bits] at wf
  exact wf.2

theorem values_law (w : World) (ht : Tab w) (h : Int) (_ : (Lit.int .i64 h).wf = true) (r : ResV) (v : Value) (hr : RdRes w v r) :
    Calls Tryd.prog 6 #[.int .i64 h, v] w fun e w' => e = .returned (.bool true) ∧ Below w.heap.size w w' := by
  obtain ⟨rfl, hv⟩ := hr
  exact values_walk w h r.e r.found r.val r.isOut r.ok r.ov hv ht

end Go.Proofs.YthmfenagdoefcaaDoor
