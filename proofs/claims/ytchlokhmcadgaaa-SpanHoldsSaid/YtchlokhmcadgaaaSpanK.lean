/-
  Layer 6: the reference's Join and Meet. Conditions: those of each theorem.
-/
import Derived.Test.YtchlokhmcadgaaaSpanJ
namespace Go.Proofs.Ytchlokhmcadgaaa
open Go.RowKit


set_option maxRecDepth 100000 in
set_option maxHeartbeats 8000000 in
theorem rjoin_any (w : World) (l : List SpanV) (A : Option Addr) (n c : Nat) (hn : n = l.length) (hm : n ≤ 4611686018427387904) (hgood : ∀ s ∈ l, Good s) (hs : Sl w A (sps l)) :
    Calls Try.prog 10 #[.slice A n c] w fun e w' => e = .returned (.tuple #[spVal (jnV l).lo (jnV l).hi, .bool (jnB l)]) ∧ Below w.heap.size w w' := by
  have HN := Lib.hid hn
  have HS := Lib.hid hs
  have HGD := Lib.hid hgood
  obtain ⟨R, hR⟩ : ∃ R, Value.tuple #[spVal (jnV l).lo (jnV l).hi, .bool (jnB l)] = R := ⟨_, rfl⟩
  rw [hR]
  have HR := Lib.hid hR
  clear hn hs hR hgood
  have O1 := Lib.hid (Ob.fresh w 26 [.int .u64 0, .int .u64 0])
  have B1 := Lib.hid (below_alloc (Below.refl w.heap.size w) (.cells #[.int .u64 0, .int .u64 0] 26))
  go_enter Try.func10, Try.ntmps10
  have O3 := Lib.hid (O1.out.alloc (.cells #[.int .u64 0, .int .u64 0] 26))
  have Q3 : Hid (Ob ((w.alloc (.cells #[.int .u64 0, .int .u64 0] 26)).alloc (.cells #[.int .u64 0, .int .u64 0] 26)) (w.heap.size + 1) 26 [.int .u64 0, .int .u64 0]) := Lib.hid (by
    have h := Ob.fresh (w.alloc (.cells #[.int .u64 0, .int .u64 0] 26)) 26 [.int .u64 0, .int .u64 0]
    simpa using h)
  have B3 := Lib.hid (below_alloc B1.out (.cells #[.int .u64 0, .int .u64 0] 26))
  clear O1 B1
  go_wp2_with fail
  generalize (w.alloc (.cells #[.int .u64 0, .int .u64 0] 26)).alloc (.cells #[.int .u64 0, .int .u64 0] 26) = w3 at O3 Q3 B3 ⊢
  have HQS : Hid (w.heap.size ≤ w.heap.size + 1) := Lib.hid (by omega)
  have hpq : Hid (w.heap.size ≠ w.heap.size + 1) := Lib.hid (by omega)
  obtain ⟨Q, hQ⟩ : ∃ Q, w.heap.size + 1 = Q := ⟨_, rfl⟩
  rw [hQ] at Q3 HQS hpq ⊢
  obtain ⟨P, hP⟩ : ∃ P, w.heap.size = P := ⟨_, rfl⟩
  rw [hP] at hpq O3 ⊢
  have HPS : Hid (w.heap.size ≤ P) := Lib.hid (Nat.le_of_eq hP)
  clear hP hQ
  go_loopw [5] (fun i wr => ∃ (k : Nat) (x y : Int), k ≤ n ∧ i = .int .i64 k ∧ Ob wr P 26 [.int .u64 0, .int .u64 0] ∧ Ob wr Q 26 [.int .u64 x, .int .u64 y] ∧ Below w.heap.size w wr ∧ allR (l.take k) = true ∧ (k = 0 → x = 0 ∧ y = 0) ∧ (0 < k → x = loMin (l.take k) ∧ y = hiMax (l.take k))) (fun i _ => n - (intOf i).toNat)
  case atStart => exact ⟨0, 0, 0, Nat.zero_le _, rfl, O3.out, Q3.out, B3.out, rfl, fun _ => ⟨rfl, rfl⟩, fun h => absurd h (by omega)⟩
  case round =>
    obtain ⟨k, x, y, hk, rfl, hop, hoq, hb, hal, hx0, hxk⟩ := hrel
    have OP := Lib.hid hop
    have OQ := Lib.hid hoq
    have BB := Lib.hid hb
    have HAL := Lib.hid hal
    have HX0 := Lib.hid hx0
    have HXK := Lib.hid hxk
    clear hop hoq hb hal O3 Q3 B3 hx0 hxk
    by_cases hlt : k < n
    · have g1 : (k : Int) < (n : Int) := by omega
      have hkl : k < l.length := by have := HN.out; omega
      obtain ⟨b, o, rfl, hbl, hcc⟩ := sps_at HS.out (by omega)
      have f0 := (BB.out.cell hbl).trans (hcc k hkl).1
      have f1 := (BB.out.cell hbl).trans (hcc k hkl).2
      have HA2 := Lib.hid (allR_take l k hkl)
      have H1 := Lib.hid (loMin_take l k hkl)
      have H2 := Lib.hid (hiMax_take l k hkl)
      have HCUT := Lib.hid (allR_cut l (k + 1))
      have HG1 := Lib.hid (HGD.out (l.getD k sp0) (by rw [List.getD_eq_getElem?_getD, List.getElem?_eq_getElem hkl]; exact List.getElem_mem hkl))
      clear hcc hkl
      generalize l.getD k sp0 = s at f0 f1 HA2 H1 H2 HG1
      obtain ⟨sl, sh⟩ := s
      dsimp only at f0 f1 HA2 H1 H2
      have F0 := Lib.hid f0
      have F1 := Lib.hid f1
      have HRT := Lib.hid (fun w => rright_any w sl sh)
      unfold spVal at HRT
      go_wp2_with fail
      refine (HRT.out wr).mono ?_
      rintro e wy ⟨rfl, by_⟩
      have PY := Lib.hid (OP.out.below by_ OP.out.lt)
      have AY := Lib.hid (OQ.out.below by_ OQ.out.lt)
      have BY := Lib.hid (BB.out.trans (by_.mono BB.out.size))
      have G0 := Lib.hid ((by_.cell (cell_lt F0.out)).trans F0.out)
      have G1 := Lib.hid ((by_.cell (cell_lt F1.out)).trans F1.out)
      clear by_ f0 f1 F0 F1 OP OQ BB
      by_cases hr : sl ≤ sh
      · rw [show decide (sl ≤ sh) = true from decide_eq_true hr]
        have HAL2 := Lib.hid (show allR (l.take (k + 1)) = true by rw [HA2.out, HAL.out, decide_eq_true hr]; rfl)
        clear hr
        have HNE : Hid (Q ≠ b) := Lib.hid (fun e => by have h1 := hbl; have h2 := HPS.out; have h3 := HQS.out; omega)
        by_cases hk0 : k = 0
        · have hk0' : ((k : Int) == 0) = true := by simp; omega
          have HXN : Hid (sl = loMin (l.take (k + 1)) ∧ sh = hiMax (l.take (k + 1))) := Lib.hid (by
            have hg := HG1.out
            unfold Good at hg
            dsimp only at hg
            rw [H1.out, H2.out, hk0]
            constructor
            · show sl = mn 18446744073709551615 sl
              unfold mn
              split <;> omega
            · show sh = mx 0 sh
              unfold mx
              split <;> omega)
          clear hk0
          have f0 : wy.cell? ⟨b, o + k * 2, none⟩ = some (.int .u64 sl) := G0.out
          have f1 : wy.cell? ⟨b, o + k * 2 + 1, none⟩ = some (.int .u64 sh) := G1.out
          have d0 : wy.cell? ⟨Q, 0, none⟩ = some (.int .u64 x) := AY.out.cell 0
          have d1 : wy.cell? ⟨Q, 1, none⟩ = some (.int .u64 y) := AY.out.cell 1
          go_wp2_with fail
          go_quiet (fail)
          have f2 : (wy.drewN nq).cell? ⟨b, o + k * 2, none⟩ = some (.int .u64 sl) := f0
          have f3 : (wy.drewN nq).cell? ⟨b, o + k * 2 + 1, none⟩ = some (.int .u64 sh) := f1
          have AZ := Lib.hid (AY.out.drewN nq)
          have PZ := Lib.hid (PY.out.drewN nq)
          have BZ := Lib.hid (below_drewN BY.out nq)
          generalize wy.drewN nq = wz at f2 f3 AZ PZ BZ ⊢
          clear f0 f1 d0 d1
          have d0 : wz.cell? ⟨Q, 0, none⟩ = some (.int .u64 x) := AZ.out.cell 0
          have d1 : wz.cell? ⟨Q, 1, none⟩ = some (.int .u64 y) := AZ.out.cell 1
          have z0 : ∀ i, wz.frozen? ⟨Q, i, none⟩ = false := AZ.out.frozen
          have F2 := Lib.hid f2
          have F3 := Lib.hid f3
          go_upto_region 9 with fail
          have AV : Hid (Ob (wz.setCell ⟨Q, 0, none⟩ (.int .u64 sl)) Q 26 [.int .u64 sl, .int .u64 y]) := Lib.hid (AZ.out.set_ 0 _)
          have PV := Lib.hid (PZ.out.far (p := ⟨Q, 0, none⟩) hpq.out (.int .u64 sl))
          have BV := Lib.hid (BZ.out.setCell (p := ⟨Q, 0, none⟩) HQS.out (.int .u64 sl))
          have k0 : (wz.setCell ⟨Q, 0, none⟩ (.int .u64 sl)).cell? ⟨b, o + k * 2, none⟩ = some (.int .u64 sl) := (World.cell?_of_block (Below.heap_setCell wz ⟨Q, 0, none⟩ (.int .u64 sl) b (fun e => HNE.out e.symm))).trans F2.out
          have k1 : (wz.setCell ⟨Q, 0, none⟩ (.int .u64 sl)).cell? ⟨b, o + k * 2 + 1, none⟩ = some (.int .u64 sh) := (World.cell?_of_block (Below.heap_setCell wz ⟨Q, 0, none⟩ (.int .u64 sl) b (fun e => HNE.out e.symm))).trans F3.out
          generalize wz.setCell ⟨Q, 0, none⟩ (.int .u64 sl) = wv at AV PV BV k0 k1 ⊢
          clear f2 f3 d0 d1 z0 AZ PZ BZ F2 F3
          have d0 : wv.cell? ⟨Q, 0, none⟩ = some (.int .u64 sl) := AV.out.cell 0
          have d1 : wv.cell? ⟨Q, 1, none⟩ = some (.int .u64 y) := AV.out.cell 1
          go_quiet (fail)
          have f2 : (wv.drewN nq).cell? ⟨b, o + k * 2, none⟩ = some (.int .u64 sl) := k0
          have f3 : (wv.drewN nq).cell? ⟨b, o + k * 2 + 1, none⟩ = some (.int .u64 sh) := k1
          have AZ := Lib.hid (AV.out.drewN nq)
          have PZ := Lib.hid (PV.out.drewN nq)
          have BZ := Lib.hid (below_drewN BV.out nq)
          generalize wv.drewN nq = wz at f2 f3 AZ PZ BZ ⊢
          clear d0 d1 k0 k1
          have d0 : wz.cell? ⟨Q, 0, none⟩ = some (.int .u64 sl) := AZ.out.cell 0
          have d1 : wz.cell? ⟨Q, 1, none⟩ = some (.int .u64 y) := AZ.out.cell 1
          have z0 : ∀ i, wz.frozen? ⟨Q, i, none⟩ = false := AZ.out.frozen
          go_wp2_with fail
          go_roundw
          case rel => exact ⟨k + 1, sl, sh, by omega, by go_num, PZ.out.far hpq.out _, AZ.out.set_ 1 _, BZ.out.setCell HQS.out _, HAL2.out, fun h => absurd h (by omega), fun _ => HXN.out⟩
          case measure => simp [intOf]; omega
        · have hk0' : ((k : Int) == 0) = false := by simp; omega
          have HXK2 := Lib.hid (HXK.out (by omega))
          clear hk0
          by_cases hc1 : sl < x
          · by_cases hc2 : y < sh
            · have HXN : Hid (sl = loMin (l.take (k + 1)) ∧ sh = hiMax (l.take (k + 1))) := Lib.hid (by rw [H1.out, H2.out, ← HXK2.out.1, ← HXK2.out.2]; exact ⟨(if_pos hc1).symm, (if_pos hc2).symm⟩)
              have f0 : wy.cell? ⟨b, o + k * 2, none⟩ = some (.int .u64 sl) := G0.out
              have f1 : wy.cell? ⟨b, o + k * 2 + 1, none⟩ = some (.int .u64 sh) := G1.out
              have d0 : wy.cell? ⟨Q, 0, none⟩ = some (.int .u64 x) := AY.out.cell 0
              have d1 : wy.cell? ⟨Q, 1, none⟩ = some (.int .u64 y) := AY.out.cell 1
              go_wp2_with fail
              go_quiet (fail)
              have f2 : (wy.drewN nq).cell? ⟨b, o + k * 2, none⟩ = some (.int .u64 sl) := f0
              have f3 : (wy.drewN nq).cell? ⟨b, o + k * 2 + 1, none⟩ = some (.int .u64 sh) := f1
              have AZ := Lib.hid (AY.out.drewN nq)
              have PZ := Lib.hid (PY.out.drewN nq)
              have BZ := Lib.hid (below_drewN BY.out nq)
              generalize wy.drewN nq = wz at f2 f3 AZ PZ BZ ⊢
              clear f0 f1 d0 d1
              have d0 : wz.cell? ⟨Q, 0, none⟩ = some (.int .u64 x) := AZ.out.cell 0
              have d1 : wz.cell? ⟨Q, 1, none⟩ = some (.int .u64 y) := AZ.out.cell 1
              have z0 : ∀ i, wz.frozen? ⟨Q, i, none⟩ = false := AZ.out.frozen
              have F2 := Lib.hid f2
              have F3 := Lib.hid f3
              go_upto_region 9 with fail
              have AV : Hid (Ob (wz.setCell ⟨Q, 0, none⟩ (.int .u64 sl)) Q 26 [.int .u64 sl, .int .u64 y]) := Lib.hid (AZ.out.set_ 0 _)
              have PV := Lib.hid (PZ.out.far (p := ⟨Q, 0, none⟩) hpq.out (.int .u64 sl))
              have BV := Lib.hid (BZ.out.setCell (p := ⟨Q, 0, none⟩) HQS.out (.int .u64 sl))
              have k0 : (wz.setCell ⟨Q, 0, none⟩ (.int .u64 sl)).cell? ⟨b, o + k * 2, none⟩ = some (.int .u64 sl) := (World.cell?_of_block (Below.heap_setCell wz ⟨Q, 0, none⟩ (.int .u64 sl) b (fun e => HNE.out e.symm))).trans F2.out
              have k1 : (wz.setCell ⟨Q, 0, none⟩ (.int .u64 sl)).cell? ⟨b, o + k * 2 + 1, none⟩ = some (.int .u64 sh) := (World.cell?_of_block (Below.heap_setCell wz ⟨Q, 0, none⟩ (.int .u64 sl) b (fun e => HNE.out e.symm))).trans F3.out
              generalize wz.setCell ⟨Q, 0, none⟩ (.int .u64 sl) = wv at AV PV BV k0 k1 ⊢
              clear f2 f3 d0 d1 z0 AZ PZ BZ F2 F3
              have d0 : wv.cell? ⟨Q, 0, none⟩ = some (.int .u64 sl) := AV.out.cell 0
              have d1 : wv.cell? ⟨Q, 1, none⟩ = some (.int .u64 y) := AV.out.cell 1
              go_quiet (fail)
              have f2 : (wv.drewN nq).cell? ⟨b, o + k * 2, none⟩ = some (.int .u64 sl) := k0
              have f3 : (wv.drewN nq).cell? ⟨b, o + k * 2 + 1, none⟩ = some (.int .u64 sh) := k1
              have AZ := Lib.hid (AV.out.drewN nq)
              have PZ := Lib.hid (PV.out.drewN nq)
              have BZ := Lib.hid (below_drewN BV.out nq)
              generalize wv.drewN nq = wz at f2 f3 AZ PZ BZ ⊢
              clear d0 d1 k0 k1
              have d0 : wz.cell? ⟨Q, 0, none⟩ = some (.int .u64 sl) := AZ.out.cell 0
              have d1 : wz.cell? ⟨Q, 1, none⟩ = some (.int .u64 y) := AZ.out.cell 1
              have z0 : ∀ i, wz.frozen? ⟨Q, i, none⟩ = false := AZ.out.frozen
              go_wp2_with fail
              go_roundw
              case rel => exact ⟨k + 1, sl, sh, by omega, by go_num, PZ.out.far hpq.out _, AZ.out.set_ 1 _, BZ.out.setCell HQS.out _, HAL2.out, fun h => absurd h (by omega), fun _ => HXN.out⟩
              case measure => simp [intOf]; omega
            · have HXN : Hid (sl = loMin (l.take (k + 1)) ∧ y = hiMax (l.take (k + 1))) := Lib.hid (by rw [H1.out, H2.out, ← HXK2.out.1, ← HXK2.out.2]; exact ⟨(if_pos hc1).symm, (if_neg hc2).symm⟩)
              have hc2' : decide (y < sh) = false := decide_eq_false hc2
              have f0 : wy.cell? ⟨b, o + k * 2, none⟩ = some (.int .u64 sl) := G0.out
              have f1 : wy.cell? ⟨b, o + k * 2 + 1, none⟩ = some (.int .u64 sh) := G1.out
              have d0 : wy.cell? ⟨Q, 0, none⟩ = some (.int .u64 x) := AY.out.cell 0
              have d1 : wy.cell? ⟨Q, 1, none⟩ = some (.int .u64 y) := AY.out.cell 1
              go_wp2_with fail
              go_quiet (fail)
              have f2 : (wy.drewN nq).cell? ⟨b, o + k * 2, none⟩ = some (.int .u64 sl) := f0
              have f3 : (wy.drewN nq).cell? ⟨b, o + k * 2 + 1, none⟩ = some (.int .u64 sh) := f1
              have AZ := Lib.hid (AY.out.drewN nq)
              have PZ := Lib.hid (PY.out.drewN nq)
              have BZ := Lib.hid (below_drewN BY.out nq)
              generalize wy.drewN nq = wz at f2 f3 AZ PZ BZ ⊢
              clear f0 f1 d0 d1
              have d0 : wz.cell? ⟨Q, 0, none⟩ = some (.int .u64 x) := AZ.out.cell 0
              have d1 : wz.cell? ⟨Q, 1, none⟩ = some (.int .u64 y) := AZ.out.cell 1
              have z0 : ∀ i, wz.frozen? ⟨Q, i, none⟩ = false := AZ.out.frozen
              have F2 := Lib.hid f2
              have F3 := Lib.hid f3
              go_upto_region 9 with fail
              have AV : Hid (Ob (wz.setCell ⟨Q, 0, none⟩ (.int .u64 sl)) Q 26 [.int .u64 sl, .int .u64 y]) := Lib.hid (AZ.out.set_ 0 _)
              have PV := Lib.hid (PZ.out.far (p := ⟨Q, 0, none⟩) hpq.out (.int .u64 sl))
              have BV := Lib.hid (BZ.out.setCell (p := ⟨Q, 0, none⟩) HQS.out (.int .u64 sl))
              have k0 : (wz.setCell ⟨Q, 0, none⟩ (.int .u64 sl)).cell? ⟨b, o + k * 2, none⟩ = some (.int .u64 sl) := (World.cell?_of_block (Below.heap_setCell wz ⟨Q, 0, none⟩ (.int .u64 sl) b (fun e => HNE.out e.symm))).trans F2.out
              have k1 : (wz.setCell ⟨Q, 0, none⟩ (.int .u64 sl)).cell? ⟨b, o + k * 2 + 1, none⟩ = some (.int .u64 sh) := (World.cell?_of_block (Below.heap_setCell wz ⟨Q, 0, none⟩ (.int .u64 sl) b (fun e => HNE.out e.symm))).trans F3.out
              generalize wz.setCell ⟨Q, 0, none⟩ (.int .u64 sl) = wv at AV PV BV k0 k1 ⊢
              clear f2 f3 d0 d1 z0 AZ PZ BZ F2 F3
              have d0 : wv.cell? ⟨Q, 0, none⟩ = some (.int .u64 sl) := AV.out.cell 0
              have d1 : wv.cell? ⟨Q, 1, none⟩ = some (.int .u64 y) := AV.out.cell 1
              go_quiet (fail)
              have f2 : (wv.drewN nq).cell? ⟨b, o + k * 2, none⟩ = some (.int .u64 sl) := k0
              have f3 : (wv.drewN nq).cell? ⟨b, o + k * 2 + 1, none⟩ = some (.int .u64 sh) := k1
              have AZ := Lib.hid (AV.out.drewN nq)
              have PZ := Lib.hid (PV.out.drewN nq)
              have BZ := Lib.hid (below_drewN BV.out nq)
              generalize wv.drewN nq = wz at f2 f3 AZ PZ BZ ⊢
              clear d0 d1 k0 k1
              have d0 : wz.cell? ⟨Q, 0, none⟩ = some (.int .u64 sl) := AZ.out.cell 0
              have d1 : wz.cell? ⟨Q, 1, none⟩ = some (.int .u64 y) := AZ.out.cell 1
              have z0 : ∀ i, wz.frozen? ⟨Q, i, none⟩ = false := AZ.out.frozen
              go_wp2_with fail
              go_roundw
              case rel => exact ⟨k + 1, sl, y, by omega, by go_num, PZ.out, AZ.out, BZ.out, HAL2.out, fun h => absurd h (by omega), fun _ => HXN.out⟩
              case measure => simp [intOf]; omega
          · have hc1' : decide (sl < x) = false := decide_eq_false hc1
            by_cases hc2 : y < sh
            · have HXN : Hid (x = loMin (l.take (k + 1)) ∧ sh = hiMax (l.take (k + 1))) := Lib.hid (by rw [H1.out, H2.out, ← HXK2.out.1, ← HXK2.out.2]; exact ⟨(if_neg hc1).symm, (if_pos hc2).symm⟩)
              have f0 : wy.cell? ⟨b, o + k * 2, none⟩ = some (.int .u64 sl) := G0.out
              have f1 : wy.cell? ⟨b, o + k * 2 + 1, none⟩ = some (.int .u64 sh) := G1.out
              have d0 : wy.cell? ⟨Q, 0, none⟩ = some (.int .u64 x) := AY.out.cell 0
              have d1 : wy.cell? ⟨Q, 1, none⟩ = some (.int .u64 y) := AY.out.cell 1
              go_wp2_with fail
              go_quiet (fail)
              have f2 : (wy.drewN nq).cell? ⟨b, o + k * 2, none⟩ = some (.int .u64 sl) := f0
              have f3 : (wy.drewN nq).cell? ⟨b, o + k * 2 + 1, none⟩ = some (.int .u64 sh) := f1
              have AZ := Lib.hid (AY.out.drewN nq)
              have PZ := Lib.hid (PY.out.drewN nq)
              have BZ := Lib.hid (below_drewN BY.out nq)
              generalize wy.drewN nq = wz at f2 f3 AZ PZ BZ ⊢
              clear f0 f1 d0 d1
              have d0 : wz.cell? ⟨Q, 0, none⟩ = some (.int .u64 x) := AZ.out.cell 0
              have d1 : wz.cell? ⟨Q, 1, none⟩ = some (.int .u64 y) := AZ.out.cell 1
              have z0 : ∀ i, wz.frozen? ⟨Q, i, none⟩ = false := AZ.out.frozen
              have F2 := Lib.hid f2
              have F3 := Lib.hid f3
              go_upto_region 9 with fail
              have AV := Lib.hid AZ.out
              have PV := Lib.hid PZ.out
              have BV := Lib.hid BZ.out
              have k0 := F2.out
              have k1 := F3.out
              generalize wz = wv at AV PV BV k0 k1 AZ PZ BZ f2 f3 d0 d1 z0 F2 F3 ⊢
              clear f2 f3 d0 d1 z0 AZ PZ BZ F2 F3
              have d0 : wv.cell? ⟨Q, 0, none⟩ = some (.int .u64 x) := AV.out.cell 0
              have d1 : wv.cell? ⟨Q, 1, none⟩ = some (.int .u64 y) := AV.out.cell 1
              go_quiet (fail)
              have f2 : (wv.drewN nq).cell? ⟨b, o + k * 2, none⟩ = some (.int .u64 sl) := k0
              have f3 : (wv.drewN nq).cell? ⟨b, o + k * 2 + 1, none⟩ = some (.int .u64 sh) := k1
              have AZ := Lib.hid (AV.out.drewN nq)
              have PZ := Lib.hid (PV.out.drewN nq)
              have BZ := Lib.hid (below_drewN BV.out nq)
              generalize wv.drewN nq = wz at f2 f3 AZ PZ BZ ⊢
              clear d0 d1 k0 k1
              have d0 : wz.cell? ⟨Q, 0, none⟩ = some (.int .u64 x) := AZ.out.cell 0
              have d1 : wz.cell? ⟨Q, 1, none⟩ = some (.int .u64 y) := AZ.out.cell 1
              have z0 : ∀ i, wz.frozen? ⟨Q, i, none⟩ = false := AZ.out.frozen
              go_wp2_with fail
              go_roundw
              case rel => exact ⟨k + 1, x, sh, by omega, by go_num, PZ.out.far hpq.out _, AZ.out.set_ 1 _, BZ.out.setCell HQS.out _, HAL2.out, fun h => absurd h (by omega), fun _ => HXN.out⟩
              case measure => simp [intOf]; omega
            · have HXN : Hid (x = loMin (l.take (k + 1)) ∧ y = hiMax (l.take (k + 1))) := Lib.hid (by rw [H1.out, H2.out, ← HXK2.out.1, ← HXK2.out.2]; exact ⟨(if_neg hc1).symm, (if_neg hc2).symm⟩)
              have hc2' : decide (y < sh) = false := decide_eq_false hc2
              have f0 : wy.cell? ⟨b, o + k * 2, none⟩ = some (.int .u64 sl) := G0.out
              have f1 : wy.cell? ⟨b, o + k * 2 + 1, none⟩ = some (.int .u64 sh) := G1.out
              have d0 : wy.cell? ⟨Q, 0, none⟩ = some (.int .u64 x) := AY.out.cell 0
              have d1 : wy.cell? ⟨Q, 1, none⟩ = some (.int .u64 y) := AY.out.cell 1
              go_wp2_with fail
              go_quiet (fail)
              have f2 : (wy.drewN nq).cell? ⟨b, o + k * 2, none⟩ = some (.int .u64 sl) := f0
              have f3 : (wy.drewN nq).cell? ⟨b, o + k * 2 + 1, none⟩ = some (.int .u64 sh) := f1
              have AZ := Lib.hid (AY.out.drewN nq)
              have PZ := Lib.hid (PY.out.drewN nq)
              have BZ := Lib.hid (below_drewN BY.out nq)
              generalize wy.drewN nq = wz at f2 f3 AZ PZ BZ ⊢
              clear f0 f1 d0 d1
              have d0 : wz.cell? ⟨Q, 0, none⟩ = some (.int .u64 x) := AZ.out.cell 0
              have d1 : wz.cell? ⟨Q, 1, none⟩ = some (.int .u64 y) := AZ.out.cell 1
              have z0 : ∀ i, wz.frozen? ⟨Q, i, none⟩ = false := AZ.out.frozen
              have F2 := Lib.hid f2
              have F3 := Lib.hid f3
              go_upto_region 9 with fail
              have AV := Lib.hid AZ.out
              have PV := Lib.hid PZ.out
              have BV := Lib.hid BZ.out
              have k0 := F2.out
              have k1 := F3.out
              generalize wz = wv at AV PV BV k0 k1 AZ PZ BZ f2 f3 d0 d1 z0 F2 F3 ⊢
              clear f2 f3 d0 d1 z0 AZ PZ BZ F2 F3
              have d0 : wv.cell? ⟨Q, 0, none⟩ = some (.int .u64 x) := AV.out.cell 0
              have d1 : wv.cell? ⟨Q, 1, none⟩ = some (.int .u64 y) := AV.out.cell 1
              go_quiet (fail)
              have f2 : (wv.drewN nq).cell? ⟨b, o + k * 2, none⟩ = some (.int .u64 sl) := k0
              have f3 : (wv.drewN nq).cell? ⟨b, o + k * 2 + 1, none⟩ = some (.int .u64 sh) := k1
              have AZ := Lib.hid (AV.out.drewN nq)
              have PZ := Lib.hid (PV.out.drewN nq)
              have BZ := Lib.hid (below_drewN BV.out nq)
              generalize wv.drewN nq = wz at f2 f3 AZ PZ BZ ⊢
              clear d0 d1 k0 k1
              have d0 : wz.cell? ⟨Q, 0, none⟩ = some (.int .u64 x) := AZ.out.cell 0
              have d1 : wz.cell? ⟨Q, 1, none⟩ = some (.int .u64 y) := AZ.out.cell 1
              have z0 : ∀ i, wz.frozen? ⟨Q, i, none⟩ = false := AZ.out.frozen
              go_wp2_with fail
              go_roundw
              case rel => exact ⟨k + 1, x, y, by omega, by go_num, PZ.out, AZ.out, BZ.out, HAL2.out, fun h => absurd h (by omega), fun _ => HXN.out⟩
              case measure => simp [intOf]; omega
      · rw [show decide (sl ≤ sh) = false from decide_eq_false hr]
        have HAF := Lib.hid (HCUT.out (by rw [HA2.out, decide_eq_false hr, Bool.and_false]))
        have HR2 := Lib.hid (show R = .tuple #[.agg #[.int .u64 0, .int .u64 0], .bool false] by rw [← HR.out]; unfold jnV jnB; rw [if_neg (by rw [HAF.out]; simp), decide_eq_false (by rw [HAF.out]; simp)]; rfl)
        clear hr
        have d0 : wy.cell? ⟨P, 0, none⟩ = some (.int .u64 0) := PY.out.cell 0
        have d1 : wy.cell? ⟨P, 1, none⟩ = some (.int .u64 0) := PY.out.cell 1
        have z0 : ∀ i, wy.frozen? ⟨P, i, none⟩ = false := PY.out.frozen
        go_wp2_with fail
        have hw := (BY.out.setCell (p := ⟨P, 0, none⟩) HPS.out (.int .u64 0)).setCell (p := ⟨P, 1, none⟩) HPS.out (.int .u64 0)
        have HOX := Lib.hid ((PY.out.set_ 0 (.int .u64 0)).set_ 1 (.int .u64 0))
        generalize (wy.setCell ⟨P, 0, none⟩ (.int .u64 0)).setCell ⟨P, 1, none⟩ (.int .u64 0) = wf at hw HOX ⊢
        have t0 : wf.cell? ⟨P, 0, none⟩ = some (.int .u64 0) := HOX.out.cell 0
        have t1 : wf.cell? ⟨P, 1, none⟩ = some (.int .u64 0) := HOX.out.cell 1
        exact bodyPost_ret (v := .tuple #[.agg #[.int .u64 0, .int .u64 0], .bool false]) (by simp [results, Try.results10, go_sem, t0, t1]) rfl ⟨by rw [HR2.out], hw⟩
    · have g1 : ¬ (k : Int) < (n : Int) := by omega
      have hkn : l.take k = l := List.take_of_length_le (by have := HN.out; omega)
      have hkn2 : k = n := by omega
      rw [hkn] at HAL HXK
      clear hkn
      have d0 : wr.cell? ⟨P, 0, none⟩ = some (.int .u64 0) := OP.out.cell 0
      have d1 : wr.cell? ⟨P, 1, none⟩ = some (.int .u64 0) := OP.out.cell 1
      have z0 : ∀ i, wr.frozen? ⟨P, i, none⟩ = false := OP.out.frozen
      have a0 : wr.cell? ⟨Q, 0, none⟩ = some (.int .u64 x) := OQ.out.cell 0
      have a1 : wr.cell? ⟨Q, 1, none⟩ = some (.int .u64 y) := OQ.out.cell 1
      by_cases hn0 : n = 0
      · have HR2 := Lib.hid (show R = .tuple #[.agg #[.int .u64 0, .int .u64 0], .bool false] by rw [← HR.out]; unfold jnV jnB; rw [if_neg (by rw [← HN.out, hn0]; simp), decide_eq_false (by rw [← HN.out, hn0]; simp)]; rfl)
        obtain ⟨rfl, rfl⟩ := HX0.out (by omega)
        subst hn0
        go_wp2_with fail
        have hw := (BB.out.setCell (p := ⟨P, 0, none⟩) HPS.out (.int .u64 0)).setCell (p := ⟨P, 1, none⟩) HPS.out (.int .u64 0)
        have HOX := Lib.hid ((OP.out.set_ 0 (.int .u64 0)).set_ 1 (.int .u64 0))
        generalize (wr.setCell ⟨P, 0, none⟩ (.int .u64 0)).setCell ⟨P, 1, none⟩ (.int .u64 0) = wf at hw HOX ⊢
        have t0 : wf.cell? ⟨P, 0, none⟩ = some (.int .u64 0) := HOX.out.cell 0
        have t1 : wf.cell? ⟨P, 1, none⟩ = some (.int .u64 0) := HOX.out.cell 1
        exact bodyPost_ret (v := .tuple #[.agg #[.int .u64 0, .int .u64 0], .bool false]) (by simp [results, Try.results10, go_sem, t0, t1]) rfl ⟨by rw [HR2.out], hw⟩
      · have hn1 : ((n : Int) == 0) = false := by simp; omega
        have hn2 : (0 : Int) < n := by omega
        obtain ⟨hx, hy⟩ := HXK.out (by omega)
        have HR2 := Lib.hid (show R = .tuple #[.agg #[.int .u64 x, .int .u64 y], .bool true] by rw [← HR.out, hx, hy]; unfold jnV jnB; rw [if_pos ⟨HAL.out, by rw [← HN.out]; omega⟩, decide_eq_true ⟨HAL.out, by rw [← HN.out]; omega⟩]; rfl)
        clear hx hy
        have hn3 : 0 < n := by omega
        go_wp2_with fail
        have hw := (BB.out.setCell (p := ⟨P, 0, none⟩) HPS.out (.int .u64 x)).setCell (p := ⟨P, 1, none⟩) HPS.out (.int .u64 y)
        have HOX := Lib.hid ((OP.out.set_ 0 (.int .u64 x)).set_ 1 (.int .u64 y))
        generalize (wr.setCell ⟨P, 0, none⟩ (.int .u64 x)).setCell ⟨P, 1, none⟩ (.int .u64 y) = wf at hw HOX ⊢
        have t0 : wf.cell? ⟨P, 0, none⟩ = some (.int .u64 x) := HOX.out.cell 0
        have t1 : wf.cell? ⟨P, 1, none⟩ = some (.int .u64 y) := HOX.out.cell 1
        exact bodyPost_ret (v := .tuple #[.agg #[.int .u64 x, .int .u64 y], .bool true]) (by simp [results, Try.results10, go_sem, t0, t1, hn3]) rfl ⟨by rw [HR2.out], hw⟩

set_option maxRecDepth 100000 in
set_option maxHeartbeats 8000000 in
theorem rmeet_any (w : World) (l : List SpanV) (A : Option Addr) (n c : Nat) (hn : n = l.length) (hm : n ≤ 4611686018427387904) (hgood : ∀ s ∈ l, Good s) (hs : Sl w A (sps l)) :
    Calls Try.prog 12 #[.slice A n c] w fun e w' => e = .returned (.tuple #[spVal (mtV l).lo (mtV l).hi, .bool (mtB l)]) ∧ Below w.heap.size w w' := by
  have HN := Lib.hid hn
  have HS := Lib.hid hs
  have HGD := Lib.hid hgood
  obtain ⟨R, hR⟩ : ∃ R, Value.tuple #[spVal (mtV l).lo (mtV l).hi, .bool (mtB l)] = R := ⟨_, rfl⟩
  rw [hR]
  have HR := Lib.hid hR
  clear hn hs hR hgood
  have O1 := Lib.hid (Ob.fresh w 26 [.int .u64 0, .int .u64 0])
  have B1 := Lib.hid (below_alloc (Below.refl w.heap.size w) (.cells #[.int .u64 0, .int .u64 0] 26))
  go_enter Try.func12, Try.ntmps12
  have O3 := Lib.hid (O1.out.alloc (.cells #[.int .u64 0, .int .u64 0] 26))
  have Q3 : Hid (Ob ((w.alloc (.cells #[.int .u64 0, .int .u64 0] 26)).alloc (.cells #[.int .u64 0, .int .u64 0] 26)) (w.heap.size + 1) 26 [.int .u64 0, .int .u64 0]) := Lib.hid (by
    have h := Ob.fresh (w.alloc (.cells #[.int .u64 0, .int .u64 0] 26)) 26 [.int .u64 0, .int .u64 0]
    simpa using h)
  have B3 := Lib.hid (below_alloc B1.out (.cells #[.int .u64 0, .int .u64 0] 26))
  clear O1 B1
  go_wp2_with fail
  generalize (w.alloc (.cells #[.int .u64 0, .int .u64 0] 26)).alloc (.cells #[.int .u64 0, .int .u64 0] 26) = w3 at O3 Q3 B3 ⊢
  have HQS : Hid (w.heap.size ≤ w.heap.size + 1) := Lib.hid (by omega)
  have hpq : Hid (w.heap.size ≠ w.heap.size + 1) := Lib.hid (by omega)
  obtain ⟨Q, hQ⟩ : ∃ Q, w.heap.size + 1 = Q := ⟨_, rfl⟩
  rw [hQ] at Q3 HQS hpq ⊢
  obtain ⟨P, hP⟩ : ∃ P, w.heap.size = P := ⟨_, rfl⟩
  rw [hP] at hpq O3 ⊢
  have HPS : Hid (w.heap.size ≤ P) := Lib.hid (Nat.le_of_eq hP)
  clear hP hQ
  go_loopw [5] (fun i wr => ∃ (k : Nat) (x y : Int), k ≤ n ∧ i = .int .i64 k ∧ Ob wr P 26 [.int .u64 0, .int .u64 0] ∧ Ob wr Q 26 [.int .u64 x, .int .u64 y] ∧ Below w.heap.size w wr ∧ allR (l.take k) = true ∧ (k = 0 → x = 0 ∧ y = 0) ∧ (0 < k → x = loMax (l.take k) ∧ y = hiMin (l.take k))) (fun i _ => n - (intOf i).toNat)
  case atStart => exact ⟨0, 0, 0, Nat.zero_le _, rfl, O3.out, Q3.out, B3.out, rfl, fun _ => ⟨rfl, rfl⟩, fun h => absurd h (by omega)⟩
  case round =>
    obtain ⟨k, x, y, hk, rfl, hop, hoq, hb, hal, hx0, hxk⟩ := hrel
    have OP := Lib.hid hop
    have OQ := Lib.hid hoq
    have BB := Lib.hid hb
    have HAL := Lib.hid hal
    have HX0 := Lib.hid hx0
    have HXK := Lib.hid hxk
    clear hop hoq hb hal O3 Q3 B3 hx0 hxk
    by_cases hlt : k < n
    · have g1 : (k : Int) < (n : Int) := by omega
      have hkl : k < l.length := by have := HN.out; omega
      obtain ⟨b, o, rfl, hbl, hcc⟩ := sps_at HS.out (by omega)
      have f0 := (BB.out.cell hbl).trans (hcc k hkl).1
      have f1 := (BB.out.cell hbl).trans (hcc k hkl).2
      have HA2 := Lib.hid (allR_take l k hkl)
      have H1 := Lib.hid (loMax_take l k hkl)
      have H2 := Lib.hid (hiMin_take l k hkl)
      have HCUT := Lib.hid (allR_cut l (k + 1))
      have HG1 := Lib.hid (HGD.out (l.getD k sp0) (by rw [List.getD_eq_getElem?_getD, List.getElem?_eq_getElem hkl]; exact List.getElem_mem hkl))
      clear hcc hkl
      generalize l.getD k sp0 = s at f0 f1 HA2 H1 H2 HG1
      obtain ⟨sl, sh⟩ := s
      dsimp only at f0 f1 HA2 H1 H2
      have F0 := Lib.hid f0
      have F1 := Lib.hid f1
      have HRT := Lib.hid (fun w => rright_any w sl sh)
      unfold spVal at HRT
      go_wp2_with fail
      refine (HRT.out wr).mono ?_
      rintro e wy ⟨rfl, by_⟩
      have PY := Lib.hid (OP.out.below by_ OP.out.lt)
      have AY := Lib.hid (OQ.out.below by_ OQ.out.lt)
      have BY := Lib.hid (BB.out.trans (by_.mono BB.out.size))
      have G0 := Lib.hid ((by_.cell (cell_lt F0.out)).trans F0.out)
      have G1 := Lib.hid ((by_.cell (cell_lt F1.out)).trans F1.out)
      clear by_ f0 f1 F0 F1 OP OQ BB
      by_cases hr : sl ≤ sh
      · rw [show decide (sl ≤ sh) = true from decide_eq_true hr]
        have HAL2 := Lib.hid (show allR (l.take (k + 1)) = true by rw [HA2.out, HAL.out, decide_eq_true hr]; rfl)
        clear hr
        have HNE : Hid (Q ≠ b) := Lib.hid (fun e => by have h1 := hbl; have h2 := HPS.out; have h3 := HQS.out; omega)
        by_cases hk0 : k = 0
        · have hk0' : ((k : Int) == 0) = true := by simp; omega
          have HXN : Hid (sl = loMax (l.take (k + 1)) ∧ sh = hiMin (l.take (k + 1))) := Lib.hid (by
            have hg := HG1.out
            unfold Good at hg
            dsimp only at hg
            rw [H1.out, H2.out, hk0]
            constructor
            · show sl = mx 0 sl
              unfold mx
              split <;> omega
            · show sh = mn 18446744073709551615 sh
              unfold mn
              split <;> omega)
          clear hk0
          have f0 : wy.cell? ⟨b, o + k * 2, none⟩ = some (.int .u64 sl) := G0.out
          have f1 : wy.cell? ⟨b, o + k * 2 + 1, none⟩ = some (.int .u64 sh) := G1.out
          have d0 : wy.cell? ⟨Q, 0, none⟩ = some (.int .u64 x) := AY.out.cell 0
          have d1 : wy.cell? ⟨Q, 1, none⟩ = some (.int .u64 y) := AY.out.cell 1
          go_wp2_with fail
          go_quiet (fail)
          have f2 : (wy.drewN nq).cell? ⟨b, o + k * 2, none⟩ = some (.int .u64 sl) := f0
          have f3 : (wy.drewN nq).cell? ⟨b, o + k * 2 + 1, none⟩ = some (.int .u64 sh) := f1
          have AZ := Lib.hid (AY.out.drewN nq)
          have PZ := Lib.hid (PY.out.drewN nq)
          have BZ := Lib.hid (below_drewN BY.out nq)
          generalize wy.drewN nq = wz at f2 f3 AZ PZ BZ ⊢
          clear f0 f1 d0 d1
          have d0 : wz.cell? ⟨Q, 0, none⟩ = some (.int .u64 x) := AZ.out.cell 0
          have d1 : wz.cell? ⟨Q, 1, none⟩ = some (.int .u64 y) := AZ.out.cell 1
          have z0 : ∀ i, wz.frozen? ⟨Q, i, none⟩ = false := AZ.out.frozen
          have F2 := Lib.hid f2
          have F3 := Lib.hid f3
          go_upto_region 9 with fail
          have AV : Hid (Ob (wz.setCell ⟨Q, 0, none⟩ (.int .u64 sl)) Q 26 [.int .u64 sl, .int .u64 y]) := Lib.hid (AZ.out.set_ 0 _)
          have PV := Lib.hid (PZ.out.far (p := ⟨Q, 0, none⟩) hpq.out (.int .u64 sl))
          have BV := Lib.hid (BZ.out.setCell (p := ⟨Q, 0, none⟩) HQS.out (.int .u64 sl))
          have k0 : (wz.setCell ⟨Q, 0, none⟩ (.int .u64 sl)).cell? ⟨b, o + k * 2, none⟩ = some (.int .u64 sl) := (World.cell?_of_block (Below.heap_setCell wz ⟨Q, 0, none⟩ (.int .u64 sl) b (fun e => HNE.out e.symm))).trans F2.out
          have k1 : (wz.setCell ⟨Q, 0, none⟩ (.int .u64 sl)).cell? ⟨b, o + k * 2 + 1, none⟩ = some (.int .u64 sh) := (World.cell?_of_block (Below.heap_setCell wz ⟨Q, 0, none⟩ (.int .u64 sl) b (fun e => HNE.out e.symm))).trans F3.out
          generalize wz.setCell ⟨Q, 0, none⟩ (.int .u64 sl) = wv at AV PV BV k0 k1 ⊢
          clear f2 f3 d0 d1 z0 AZ PZ BZ F2 F3
          have d0 : wv.cell? ⟨Q, 0, none⟩ = some (.int .u64 sl) := AV.out.cell 0
          have d1 : wv.cell? ⟨Q, 1, none⟩ = some (.int .u64 y) := AV.out.cell 1
          go_quiet (fail)
          have f2 : (wv.drewN nq).cell? ⟨b, o + k * 2, none⟩ = some (.int .u64 sl) := k0
          have f3 : (wv.drewN nq).cell? ⟨b, o + k * 2 + 1, none⟩ = some (.int .u64 sh) := k1
          have AZ := Lib.hid (AV.out.drewN nq)
          have PZ := Lib.hid (PV.out.drewN nq)
          have BZ := Lib.hid (below_drewN BV.out nq)
          generalize wv.drewN nq = wz at f2 f3 AZ PZ BZ ⊢
          clear d0 d1 k0 k1
          have d0 : wz.cell? ⟨Q, 0, none⟩ = some (.int .u64 sl) := AZ.out.cell 0
          have d1 : wz.cell? ⟨Q, 1, none⟩ = some (.int .u64 y) := AZ.out.cell 1
          have z0 : ∀ i, wz.frozen? ⟨Q, i, none⟩ = false := AZ.out.frozen
          go_wp2_with fail
          go_roundw
          case rel => exact ⟨k + 1, sl, sh, by omega, by go_num, PZ.out.far hpq.out _, AZ.out.set_ 1 _, BZ.out.setCell HQS.out _, HAL2.out, fun h => absurd h (by omega), fun _ => HXN.out⟩
          case measure => simp [intOf]; omega
        · have hk0' : ((k : Int) == 0) = false := by simp; omega
          have HXK2 := Lib.hid (HXK.out (by omega))
          clear hk0
          by_cases hc1 : x < sl
          · by_cases hc2 : sh < y
            · have HXN : Hid (sl = loMax (l.take (k + 1)) ∧ sh = hiMin (l.take (k + 1))) := Lib.hid (by rw [H1.out, H2.out, ← HXK2.out.1, ← HXK2.out.2]; exact ⟨(if_pos hc1).symm, (if_pos hc2).symm⟩)
              have f0 : wy.cell? ⟨b, o + k * 2, none⟩ = some (.int .u64 sl) := G0.out
              have f1 : wy.cell? ⟨b, o + k * 2 + 1, none⟩ = some (.int .u64 sh) := G1.out
              have d0 : wy.cell? ⟨Q, 0, none⟩ = some (.int .u64 x) := AY.out.cell 0
              have d1 : wy.cell? ⟨Q, 1, none⟩ = some (.int .u64 y) := AY.out.cell 1
              go_wp2_with fail
              go_quiet (fail)
              have f2 : (wy.drewN nq).cell? ⟨b, o + k * 2, none⟩ = some (.int .u64 sl) := f0
              have f3 : (wy.drewN nq).cell? ⟨b, o + k * 2 + 1, none⟩ = some (.int .u64 sh) := f1
              have AZ := Lib.hid (AY.out.drewN nq)
              have PZ := Lib.hid (PY.out.drewN nq)
              have BZ := Lib.hid (below_drewN BY.out nq)
              generalize wy.drewN nq = wz at f2 f3 AZ PZ BZ ⊢
              clear f0 f1 d0 d1
              have d0 : wz.cell? ⟨Q, 0, none⟩ = some (.int .u64 x) := AZ.out.cell 0
              have d1 : wz.cell? ⟨Q, 1, none⟩ = some (.int .u64 y) := AZ.out.cell 1
              have z0 : ∀ i, wz.frozen? ⟨Q, i, none⟩ = false := AZ.out.frozen
              have F2 := Lib.hid f2
              have F3 := Lib.hid f3
              go_upto_region 9 with fail
              have AV : Hid (Ob (wz.setCell ⟨Q, 0, none⟩ (.int .u64 sl)) Q 26 [.int .u64 sl, .int .u64 y]) := Lib.hid (AZ.out.set_ 0 _)
              have PV := Lib.hid (PZ.out.far (p := ⟨Q, 0, none⟩) hpq.out (.int .u64 sl))
              have BV := Lib.hid (BZ.out.setCell (p := ⟨Q, 0, none⟩) HQS.out (.int .u64 sl))
              have k0 : (wz.setCell ⟨Q, 0, none⟩ (.int .u64 sl)).cell? ⟨b, o + k * 2, none⟩ = some (.int .u64 sl) := (World.cell?_of_block (Below.heap_setCell wz ⟨Q, 0, none⟩ (.int .u64 sl) b (fun e => HNE.out e.symm))).trans F2.out
              have k1 : (wz.setCell ⟨Q, 0, none⟩ (.int .u64 sl)).cell? ⟨b, o + k * 2 + 1, none⟩ = some (.int .u64 sh) := (World.cell?_of_block (Below.heap_setCell wz ⟨Q, 0, none⟩ (.int .u64 sl) b (fun e => HNE.out e.symm))).trans F3.out
              generalize wz.setCell ⟨Q, 0, none⟩ (.int .u64 sl) = wv at AV PV BV k0 k1 ⊢
              clear f2 f3 d0 d1 z0 AZ PZ BZ F2 F3
              have d0 : wv.cell? ⟨Q, 0, none⟩ = some (.int .u64 sl) := AV.out.cell 0
              have d1 : wv.cell? ⟨Q, 1, none⟩ = some (.int .u64 y) := AV.out.cell 1
              go_quiet (fail)
              have f2 : (wv.drewN nq).cell? ⟨b, o + k * 2, none⟩ = some (.int .u64 sl) := k0
              have f3 : (wv.drewN nq).cell? ⟨b, o + k * 2 + 1, none⟩ = some (.int .u64 sh) := k1
              have AZ := Lib.hid (AV.out.drewN nq)
              have PZ := Lib.hid (PV.out.drewN nq)
              have BZ := Lib.hid (below_drewN BV.out nq)
              generalize wv.drewN nq = wz at f2 f3 AZ PZ BZ ⊢
              clear d0 d1 k0 k1
              have d0 : wz.cell? ⟨Q, 0, none⟩ = some (.int .u64 sl) := AZ.out.cell 0
              have d1 : wz.cell? ⟨Q, 1, none⟩ = some (.int .u64 y) := AZ.out.cell 1
              have z0 : ∀ i, wz.frozen? ⟨Q, i, none⟩ = false := AZ.out.frozen
              go_wp2_with fail
              go_roundw
              case rel => exact ⟨k + 1, sl, sh, by omega, by go_num, PZ.out.far hpq.out _, AZ.out.set_ 1 _, BZ.out.setCell HQS.out _, HAL2.out, fun h => absurd h (by omega), fun _ => HXN.out⟩
              case measure => simp [intOf]; omega
            · have HXN : Hid (sl = loMax (l.take (k + 1)) ∧ y = hiMin (l.take (k + 1))) := Lib.hid (by rw [H1.out, H2.out, ← HXK2.out.1, ← HXK2.out.2]; exact ⟨(if_pos hc1).symm, (if_neg hc2).symm⟩)
              have hc2' : decide (sh < y) = false := decide_eq_false hc2
              have f0 : wy.cell? ⟨b, o + k * 2, none⟩ = some (.int .u64 sl) := G0.out
              have f1 : wy.cell? ⟨b, o + k * 2 + 1, none⟩ = some (.int .u64 sh) := G1.out
              have d0 : wy.cell? ⟨Q, 0, none⟩ = some (.int .u64 x) := AY.out.cell 0
              have d1 : wy.cell? ⟨Q, 1, none⟩ = some (.int .u64 y) := AY.out.cell 1
              go_wp2_with fail
              go_quiet (fail)
              have f2 : (wy.drewN nq).cell? ⟨b, o + k * 2, none⟩ = some (.int .u64 sl) := f0
              have f3 : (wy.drewN nq).cell? ⟨b, o + k * 2 + 1, none⟩ = some (.int .u64 sh) := f1
              have AZ := Lib.hid (AY.out.drewN nq)
              have PZ := Lib.hid (PY.out.drewN nq)
              have BZ := Lib.hid (below_drewN BY.out nq)
              generalize wy.drewN nq = wz at f2 f3 AZ PZ BZ ⊢
              clear f0 f1 d0 d1
              have d0 : wz.cell? ⟨Q, 0, none⟩ = some (.int .u64 x) := AZ.out.cell 0
              have d1 : wz.cell? ⟨Q, 1, none⟩ = some (.int .u64 y) := AZ.out.cell 1
              have z0 : ∀ i, wz.frozen? ⟨Q, i, none⟩ = false := AZ.out.frozen
              have F2 := Lib.hid f2
              have F3 := Lib.hid f3
              go_upto_region 9 with fail
              have AV : Hid (Ob (wz.setCell ⟨Q, 0, none⟩ (.int .u64 sl)) Q 26 [.int .u64 sl, .int .u64 y]) := Lib.hid (AZ.out.set_ 0 _)
              have PV := Lib.hid (PZ.out.far (p := ⟨Q, 0, none⟩) hpq.out (.int .u64 sl))
              have BV := Lib.hid (BZ.out.setCell (p := ⟨Q, 0, none⟩) HQS.out (.int .u64 sl))
              have k0 : (wz.setCell ⟨Q, 0, none⟩ (.int .u64 sl)).cell? ⟨b, o + k * 2, none⟩ = some (.int .u64 sl) := (World.cell?_of_block (Below.heap_setCell wz ⟨Q, 0, none⟩ (.int .u64 sl) b (fun e => HNE.out e.symm))).trans F2.out
              have k1 : (wz.setCell ⟨Q, 0, none⟩ (.int .u64 sl)).cell? ⟨b, o + k * 2 + 1, none⟩ = some (.int .u64 sh) := (World.cell?_of_block (Below.heap_setCell wz ⟨Q, 0, none⟩ (.int .u64 sl) b (fun e => HNE.out e.symm))).trans F3.out
              generalize wz.setCell ⟨Q, 0, none⟩ (.int .u64 sl) = wv at AV PV BV k0 k1 ⊢
              clear f2 f3 d0 d1 z0 AZ PZ BZ F2 F3
              have d0 : wv.cell? ⟨Q, 0, none⟩ = some (.int .u64 sl) := AV.out.cell 0
              have d1 : wv.cell? ⟨Q, 1, none⟩ = some (.int .u64 y) := AV.out.cell 1
              go_quiet (fail)
              have f2 : (wv.drewN nq).cell? ⟨b, o + k * 2, none⟩ = some (.int .u64 sl) := k0
              have f3 : (wv.drewN nq).cell? ⟨b, o + k * 2 + 1, none⟩ = some (.int .u64 sh) := k1
              have AZ := Lib.hid (AV.out.drewN nq)
              have PZ := Lib.hid (PV.out.drewN nq)
              have BZ := Lib.hid (below_drewN BV.out nq)
              generalize wv.drewN nq = wz at f2 f3 AZ PZ BZ ⊢
              clear d0 d1 k0 k1
              have d0 : wz.cell? ⟨Q, 0, none⟩ = some (.int .u64 sl) := AZ.out.cell 0
              have d1 : wz.cell? ⟨Q, 1, none⟩ = some (.int .u64 y) := AZ.out.cell 1
              have z0 : ∀ i, wz.frozen? ⟨Q, i, none⟩ = false := AZ.out.frozen
              go_wp2_with fail
              go_roundw
              case rel => exact ⟨k + 1, sl, y, by omega, by go_num, PZ.out, AZ.out, BZ.out, HAL2.out, fun h => absurd h (by omega), fun _ => HXN.out⟩
              case measure => simp [intOf]; omega
          · have hc1' : decide (x < sl) = false := decide_eq_false hc1
            by_cases hc2 : sh < y
            · have HXN : Hid (x = loMax (l.take (k + 1)) ∧ sh = hiMin (l.take (k + 1))) := Lib.hid (by rw [H1.out, H2.out, ← HXK2.out.1, ← HXK2.out.2]; exact ⟨(if_neg hc1).symm, (if_pos hc2).symm⟩)
              have f0 : wy.cell? ⟨b, o + k * 2, none⟩ = some (.int .u64 sl) := G0.out
              have f1 : wy.cell? ⟨b, o + k * 2 + 1, none⟩ = some (.int .u64 sh) := G1.out
              have d0 : wy.cell? ⟨Q, 0, none⟩ = some (.int .u64 x) := AY.out.cell 0
              have d1 : wy.cell? ⟨Q, 1, none⟩ = some (.int .u64 y) := AY.out.cell 1
              go_wp2_with fail
              go_quiet (fail)
              have f2 : (wy.drewN nq).cell? ⟨b, o + k * 2, none⟩ = some (.int .u64 sl) := f0
              have f3 : (wy.drewN nq).cell? ⟨b, o + k * 2 + 1, none⟩ = some (.int .u64 sh) := f1
              have AZ := Lib.hid (AY.out.drewN nq)
              have PZ := Lib.hid (PY.out.drewN nq)
              have BZ := Lib.hid (below_drewN BY.out nq)
              generalize wy.drewN nq = wz at f2 f3 AZ PZ BZ ⊢
              clear f0 f1 d0 d1
              have d0 : wz.cell? ⟨Q, 0, none⟩ = some (.int .u64 x) := AZ.out.cell 0
              have d1 : wz.cell? ⟨Q, 1, none⟩ = some (.int .u64 y) := AZ.out.cell 1
              have z0 : ∀ i, wz.frozen? ⟨Q, i, none⟩ = false := AZ.out.frozen
              have F2 := Lib.hid f2
              have F3 := Lib.hid f3
              go_upto_region 9 with fail
              have AV := Lib.hid AZ.out
              have PV := Lib.hid PZ.out
              have BV := Lib.hid BZ.out
              have k0 := F2.out
              have k1 := F3.out
              generalize wz = wv at AV PV BV k0 k1 AZ PZ BZ f2 f3 d0 d1 z0 F2 F3 ⊢
              clear f2 f3 d0 d1 z0 AZ PZ BZ F2 F3
              have d0 : wv.cell? ⟨Q, 0, none⟩ = some (.int .u64 x) := AV.out.cell 0
              have d1 : wv.cell? ⟨Q, 1, none⟩ = some (.int .u64 y) := AV.out.cell 1
              go_quiet (fail)
              have f2 : (wv.drewN nq).cell? ⟨b, o + k * 2, none⟩ = some (.int .u64 sl) := k0
              have f3 : (wv.drewN nq).cell? ⟨b, o + k * 2 + 1, none⟩ = some (.int .u64 sh) := k1
              have AZ := Lib.hid (AV.out.drewN nq)
              have PZ := Lib.hid (PV.out.drewN nq)
              have BZ := Lib.hid (below_drewN BV.out nq)
              generalize wv.drewN nq = wz at f2 f3 AZ PZ BZ ⊢
              clear d0 d1 k0 k1
              have d0 : wz.cell? ⟨Q, 0, none⟩ = some (.int .u64 x) := AZ.out.cell 0
              have d1 : wz.cell? ⟨Q, 1, none⟩ = some (.int .u64 y) := AZ.out.cell 1
              have z0 : ∀ i, wz.frozen? ⟨Q, i, none⟩ = false := AZ.out.frozen
              go_wp2_with fail
              go_roundw
              case rel => exact ⟨k + 1, x, sh, by omega, by go_num, PZ.out.far hpq.out _, AZ.out.set_ 1 _, BZ.out.setCell HQS.out _, HAL2.out, fun h => absurd h (by omega), fun _ => HXN.out⟩
              case measure => simp [intOf]; omega
            · have HXN : Hid (x = loMax (l.take (k + 1)) ∧ y = hiMin (l.take (k + 1))) := Lib.hid (by rw [H1.out, H2.out, ← HXK2.out.1, ← HXK2.out.2]; exact ⟨(if_neg hc1).symm, (if_neg hc2).symm⟩)
              have hc2' : decide (sh < y) = false := decide_eq_false hc2
              have f0 : wy.cell? ⟨b, o + k * 2, none⟩ = some (.int .u64 sl) := G0.out
              have f1 : wy.cell? ⟨b, o + k * 2 + 1, none⟩ = some (.int .u64 sh) := G1.out
              have d0 : wy.cell? ⟨Q, 0, none⟩ = some (.int .u64 x) := AY.out.cell 0
              have d1 : wy.cell? ⟨Q, 1, none⟩ = some (.int .u64 y) := AY.out.cell 1
              go_wp2_with fail
              go_quiet (fail)
              have f2 : (wy.drewN nq).cell? ⟨b, o + k * 2, none⟩ = some (.int .u64 sl) := f0
              have f3 : (wy.drewN nq).cell? ⟨b, o + k * 2 + 1, none⟩ = some (.int .u64 sh) := f1
              have AZ := Lib.hid (AY.out.drewN nq)
              have PZ := Lib.hid (PY.out.drewN nq)
              have BZ := Lib.hid (below_drewN BY.out nq)
              generalize wy.drewN nq = wz at f2 f3 AZ PZ BZ ⊢
              clear f0 f1 d0 d1
              have d0 : wz.cell? ⟨Q, 0, none⟩ = some (.int .u64 x) := AZ.out.cell 0
              have d1 : wz.cell? ⟨Q, 1, none⟩ = some (.int .u64 y) := AZ.out.cell 1
              have z0 : ∀ i, wz.frozen? ⟨Q, i, none⟩ = false := AZ.out.frozen
              have F2 := Lib.hid f2
              have F3 := Lib.hid f3
              go_upto_region 9 with fail
              have AV := Lib.hid AZ.out
              have PV := Lib.hid PZ.out
              have BV := Lib.hid BZ.out
              have k0 := F2.out
              have k1 := F3.out
              generalize wz = wv at AV PV BV k0 k1 AZ PZ BZ f2 f3 d0 d1 z0 F2 F3 ⊢
              clear f2 f3 d0 d1 z0 AZ PZ BZ F2 F3
              have d0 : wv.cell? ⟨Q, 0, none⟩ = some (.int .u64 x) := AV.out.cell 0
              have d1 : wv.cell? ⟨Q, 1, none⟩ = some (.int .u64 y) := AV.out.cell 1
              go_quiet (fail)
              have f2 : (wv.drewN nq).cell? ⟨b, o + k * 2, none⟩ = some (.int .u64 sl) := k0
              have f3 : (wv.drewN nq).cell? ⟨b, o + k * 2 + 1, none⟩ = some (.int .u64 sh) := k1
              have AZ := Lib.hid (AV.out.drewN nq)
              have PZ := Lib.hid (PV.out.drewN nq)
              have BZ := Lib.hid (below_drewN BV.out nq)
              generalize wv.drewN nq = wz at f2 f3 AZ PZ BZ ⊢
              clear d0 d1 k0 k1
              have d0 : wz.cell? ⟨Q, 0, none⟩ = some (.int .u64 x) := AZ.out.cell 0
              have d1 : wz.cell? ⟨Q, 1, none⟩ = some (.int .u64 y) := AZ.out.cell 1
              have z0 : ∀ i, wz.frozen? ⟨Q, i, none⟩ = false := AZ.out.frozen
              go_wp2_with fail
              go_roundw
              case rel => exact ⟨k + 1, x, y, by omega, by go_num, PZ.out, AZ.out, BZ.out, HAL2.out, fun h => absurd h (by omega), fun _ => HXN.out⟩
              case measure => simp [intOf]; omega
      · rw [show decide (sl ≤ sh) = false from decide_eq_false hr]
        have HAF := Lib.hid (HCUT.out (by rw [HA2.out, decide_eq_false hr, Bool.and_false]))
        have HR2 := Lib.hid (show R = .tuple #[.agg #[.int .u64 0, .int .u64 0], .bool false] by rw [← HR.out]; unfold mtV mtB; rw [if_neg (by rw [HAF.out]; simp), decide_eq_false (by rw [HAF.out]; simp)]; rfl)
        clear hr
        have d0 : wy.cell? ⟨P, 0, none⟩ = some (.int .u64 0) := PY.out.cell 0
        have d1 : wy.cell? ⟨P, 1, none⟩ = some (.int .u64 0) := PY.out.cell 1
        have z0 : ∀ i, wy.frozen? ⟨P, i, none⟩ = false := PY.out.frozen
        go_wp2_with fail
        have hw := (BY.out.setCell (p := ⟨P, 0, none⟩) HPS.out (.int .u64 0)).setCell (p := ⟨P, 1, none⟩) HPS.out (.int .u64 0)
        have HOX := Lib.hid ((PY.out.set_ 0 (.int .u64 0)).set_ 1 (.int .u64 0))
        generalize (wy.setCell ⟨P, 0, none⟩ (.int .u64 0)).setCell ⟨P, 1, none⟩ (.int .u64 0) = wf at hw HOX ⊢
        have t0 : wf.cell? ⟨P, 0, none⟩ = some (.int .u64 0) := HOX.out.cell 0
        have t1 : wf.cell? ⟨P, 1, none⟩ = some (.int .u64 0) := HOX.out.cell 1
        exact bodyPost_ret (v := .tuple #[.agg #[.int .u64 0, .int .u64 0], .bool false]) (by simp [results, Try.results12, go_sem, t0, t1]) rfl ⟨by rw [HR2.out], hw⟩
    · have g1 : ¬ (k : Int) < (n : Int) := by omega
      have hkn : l.take k = l := List.take_of_length_le (by have := HN.out; omega)
      have hkn2 : k = n := by omega
      rw [hkn] at HAL HXK
      clear hkn
      have d0 : wr.cell? ⟨P, 0, none⟩ = some (.int .u64 0) := OP.out.cell 0
      have d1 : wr.cell? ⟨P, 1, none⟩ = some (.int .u64 0) := OP.out.cell 1
      have z0 : ∀ i, wr.frozen? ⟨P, i, none⟩ = false := OP.out.frozen
      have a0 : wr.cell? ⟨Q, 0, none⟩ = some (.int .u64 x) := OQ.out.cell 0
      have a1 : wr.cell? ⟨Q, 1, none⟩ = some (.int .u64 y) := OQ.out.cell 1
      by_cases hn0 : n = 0
      · have HR2 := Lib.hid (show R = .tuple #[.agg #[.int .u64 0, .int .u64 0], .bool false] by rw [← HR.out]; unfold mtV mtB; rw [if_neg (by rw [← HN.out, hn0]; simp), decide_eq_false (by rw [← HN.out, hn0]; simp)]; rfl)
        obtain ⟨rfl, rfl⟩ := HX0.out (by omega)
        subst hn0
        go_wp2_with fail
        have hw := (BB.out.setCell (p := ⟨P, 0, none⟩) HPS.out (.int .u64 0)).setCell (p := ⟨P, 1, none⟩) HPS.out (.int .u64 0)
        have HOX := Lib.hid ((OP.out.set_ 0 (.int .u64 0)).set_ 1 (.int .u64 0))
        generalize (wr.setCell ⟨P, 0, none⟩ (.int .u64 0)).setCell ⟨P, 1, none⟩ (.int .u64 0) = wf at hw HOX ⊢
        have t0 : wf.cell? ⟨P, 0, none⟩ = some (.int .u64 0) := HOX.out.cell 0
        have t1 : wf.cell? ⟨P, 1, none⟩ = some (.int .u64 0) := HOX.out.cell 1
        exact bodyPost_ret (v := .tuple #[.agg #[.int .u64 0, .int .u64 0], .bool false]) (by simp [results, Try.results12, go_sem, t0, t1]) rfl ⟨by rw [HR2.out], hw⟩
      · have hn1 : ((n : Int) == 0) = false := by simp; omega
        have hn2 : (0 : Int) < n := by omega
        obtain ⟨hx, hy⟩ := HXK.out (by omega)
        have HX := Lib.hid (show R = if x ≤ y then .tuple #[.agg #[.int .u64 x, .int .u64 y], .bool true] else .tuple #[.agg #[.int .u64 0, .int .u64 0], .bool false] by
          rw [← HR.out, hx, hy]; unfold mtV mtB
          by_cases hx : loMax l ≤ hiMin l
          · rw [if_pos ⟨HAL.out, by rw [← HN.out]; omega, hx⟩, decide_eq_true ⟨HAL.out, by rw [← HN.out]; omega, hx⟩, if_pos hx]; rfl
          · rw [if_neg (fun h => hx h.2.2), decide_eq_false (fun h => hx h.2.2), if_neg hx]; rfl)
        clear hx hy
        have HRT := Lib.hid (fun w => rright_any w x y)
        unfold spVal at HRT
        go_wp2_with fail
        refine (HRT.out wr).mono ?_
        rintro e wy ⟨rfl, by_⟩
        have PY := Lib.hid (OP.out.below by_ OP.out.lt)
        have AY := Lib.hid (OQ.out.below by_ OQ.out.lt)
        have BY := Lib.hid (BB.out.trans (by_.mono BB.out.size))
        clear by_ d0 d1 z0 a0 a1
        have d0 : wy.cell? ⟨P, 0, none⟩ = some (.int .u64 0) := PY.out.cell 0
        have d1 : wy.cell? ⟨P, 1, none⟩ = some (.int .u64 0) := PY.out.cell 1
        have z0 : ∀ i, wy.frozen? ⟨P, i, none⟩ = false := PY.out.frozen
        have a0 : wy.cell? ⟨Q, 0, none⟩ = some (.int .u64 x) := AY.out.cell 0
        have a1 : wy.cell? ⟨Q, 1, none⟩ = some (.int .u64 y) := AY.out.cell 1
        by_cases hr : x ≤ y
        · rw [show decide (x ≤ y) = true from decide_eq_true hr]
          have HR2 := Lib.hid (HX.out.trans (if_pos hr))
          clear hr
          go_wp2_with fail
          have hw := (BY.out.setCell (p := ⟨P, 0, none⟩) HPS.out (.int .u64 x)).setCell (p := ⟨P, 1, none⟩) HPS.out (.int .u64 y)
          have HOX := Lib.hid ((PY.out.set_ 0 (.int .u64 x)).set_ 1 (.int .u64 y))
          generalize (wy.setCell ⟨P, 0, none⟩ (.int .u64 x)).setCell ⟨P, 1, none⟩ (.int .u64 y) = wf at hw HOX ⊢
          have t0 : wf.cell? ⟨P, 0, none⟩ = some (.int .u64 x) := HOX.out.cell 0
          have t1 : wf.cell? ⟨P, 1, none⟩ = some (.int .u64 y) := HOX.out.cell 1
          exact bodyPost_ret (v := .tuple #[.agg #[.int .u64 x, .int .u64 y], .bool true]) (by simp [results, Try.results12, go_sem, t0, t1]) rfl ⟨by rw [HR2.out], hw⟩
        · rw [show decide (x ≤ y) = false from decide_eq_false hr]
          have HR2 := Lib.hid (HX.out.trans (if_neg hr))
          clear hr
          go_wp2_with fail
          have hw := (BY.out.setCell (p := ⟨P, 0, none⟩) HPS.out (.int .u64 0)).setCell (p := ⟨P, 1, none⟩) HPS.out (.int .u64 0)
          have HOX := Lib.hid ((PY.out.set_ 0 (.int .u64 0)).set_ 1 (.int .u64 0))
          generalize (wy.setCell ⟨P, 0, none⟩ (.int .u64 0)).setCell ⟨P, 1, none⟩ (.int .u64 0) = wf at hw HOX ⊢
          have t0 : wf.cell? ⟨P, 0, none⟩ = some (.int .u64 0) := HOX.out.cell 0
          have t1 : wf.cell? ⟨P, 1, none⟩ = some (.int .u64 0) := HOX.out.cell 1
          exact bodyPost_ret (v := .tuple #[.agg #[.int .u64 0, .int .u64 0], .bool false]) (by simp [results, Try.results12, go_sem, t0, t1]) rfl ⟨by rw [HR2.out], hw⟩

end Go.Proofs.Ytchlokhmcadgaaa
