/-
  The walk of the law SpanJoins. Conditions: none.
-/
import Derived.Test.YtchlokhmcadgaaaSpanN
namespace Go.Proofs.Ytchlokhmcadgaaa
open Go.RowKit

theorem sps_allone (l : List SpanV) : ∀ u ∈ sps l, u.oneCell' = true := by
  intro u hu
  obtain ⟨t, _, h⟩ := List.mem_flatMap.1 hu
  simp only [spc, List.mem_cons, List.mem_nil_iff, or_false] at h
  rcases h with rfl | rfl <;> rfl
theorem span_info : (Try.prog.info? 26).map (fun i => (i.zero, i.size, i.bytes)) = some (some (.agg #[.int .u64 0, .int .u64 0]), 2, 16) := by kernel_rfl
theorem sps_app (a b : List SpanV) : sps (a ++ b) = sps a ++ sps b := List.flatMap_append
theorem Sl.pre {w : World} {A : Option Addr} {l : List SpanV} (h : Sl w A (sps l)) (k : Nat) : Sl w A (sps (l.take k)) := fun hp => by
  have h0 : l = l.take k ++ l.drop k := (List.take_append_drop k l).symm
  have h1 : sps l = sps (l.take k) ++ sps (l.drop k) := by rw [← sps_app, ← h0]
  have hl : (sps (l.take k)).length ≤ (sps l).length := by rw [h1, List.length_append]; omega
  obtain ⟨b, o, e, hc⟩ := h (by omega)
  refine ⟨b, o, e, fun j hj => ?_⟩
  rw [hc j (by omega), h1, List.getD_eq_getElem?_getD (l := sps (l.take k) ++ sps (l.drop k)), List.getElem?_append_left hj, ← List.getD_eq_getElem?_getD]

set_option maxRecDepth 100000 in
set_option maxHeartbeats 8000000 in
theorem joins_walk (w : World) (l : List SpanV) (A : Option Addr) (n c : Nat) (hn : n = l.length) (hnc : n ≤ c) (hm : n * 16 ≤ 140737488351232) (hgood : ∀ s ∈ l, Good s) (hs : Sl w A (sps l)) :
    Calls Try.prog 3 #[.slice A n c] w fun e w' => e = .returned (.bool true) ∧ Below w.heap.size w w' := by
  have HN := Lib.hid hn
  have HS := Lib.hid hs
  have HG := Lib.hid hgood
  clear hn hs hgood
  obtain ⟨i0, hi0, hz0, hz1, hz2⟩ := info_parts span_info
  go_enter Try.func3, Try.ntmps3
  go_wp2_with fail
  refine (awake_any w).mono ?_
  rintro e w0 ⟨rfl, b0⟩
  have B0 := Lib.hid b0
  clear b0
  go_wp2_with
    (at_builtin
     refine wpList_append_in _ rfl (.tmp 16) (.tmp 17) _ rfl (below_alloc B0.out _) 26 i0 _ 2 16 Try.underlying22 hi0 hz0 hz1 hz2 rfl (by omega) (.slice (some ⟨w0.heap.size, 0, none⟩) 0 0) 0 [] rfl (own_empty B0.out _ _)
       A n c (sps l) rfl (by rw [sps_length, ← HN.out]) (HS.out.below (below_alloc B0.out _)) (sps_allone _) (by omega) (by omega) ?_
     intro v2 w2 hown hb2 _ _
     obtain ⟨A2, c2, rfl, hc2, _, hsl2, _⟩ := own_form hown
     simp only [Nat.zero_add, List.nil_append] at hsl2 hc2
     have S2 := Lib.hid hsl2
     have B2 := Lib.hid hb2
     clear hown hb2 hsl2)
  go_loopw [4] (fun i wr => ∃ k : Nat, k ≤ n + 1 + n / 8 ∧ i = .int .i64 k ∧ Below w2.heap.size w2 wr) (fun i _ => n + 1 - (intOf i).toNat)
  case atStart => exact ⟨0, Nat.zero_le _, rfl, Below.refl _ _⟩
  case round =>
    obtain ⟨k, hk, rfl, hb⟩ := hrel
    have BB := Lib.hid hb
    have BW := Lib.hid (B2.out.trans (hb.mono B2.out.size))
    clear hb
    by_cases hlt : k ≤ n
    · have g1 : (k : Int) ≤ (n : Int) := by omega
      have g2 : (k : Int) ≤ (c : Int) := by omega
      have g3 : (k : Int) ≤ (c2 : Int) := by omega
      have g0 : (0 : Int) ≤ (k : Int) := by omega
      have HK := Lib.hid (show k = (l.take k).length by rw [List.length_take, ← HN.out]; omega)
      go_wp2_with fail
      have HGK := Lib.hid (fun s (hs : s ∈ l.take k) => HG.out s (List.mem_of_mem_take hs))
      obtain ⟨jv, hjv⟩ : ∃ v, jnV (l.take k) = v := ⟨_, rfl⟩
      obtain ⟨jb, hjb⟩ : ∃ v, jnB (l.take k) = v := ⟨_, rfl⟩
      obtain ⟨mv, hmv⟩ : ∃ v, mtV (l.take k) = v := ⟨_, rfl⟩
      obtain ⟨mb, hmb⟩ : ∃ v, mtB (l.take k) = v := ⟨_, rfl⟩
      have C1 := Lib.hid (fun w A c (hs : Sl w A (sps (l.take k))) => join_any w (l.take k) A k c HK.out (by omega) hs)
      have C2 := Lib.hid (fun w A c (hs : Sl w A (sps (l.take k))) => rjoin_any w (l.take k) A k c HK.out (by omega) HGK.out hs)
      have C3 := Lib.hid (fun w A c (hs : Sl w A (sps (l.take k))) => meet_any w (l.take k) A k c HK.out (by omega) hs)
      have C4 := Lib.hid (fun w A c (hs : Sl w A (sps (l.take k))) => rmeet_any w (l.take k) A k c HK.out (by omega) HGK.out hs)
      rw [hjv, hjb] at C1 C2
      rw [hmv, hmb] at C3 C4
      clear hjv hjb hmv hmb
      obtain ⟨jl, jh⟩ := jv
      obtain ⟨ml, mh⟩ := mv
      unfold spVal at C1 C2 C3 C4
      dsimp only at C1 C2 C3 C4
      refine (C1.out wr A2 c2 ((S2.out.below BB.out).pre k)).mono ?_
      rintro e wu1 ⟨rfl, bu⟩
      have BL1 := Lib.hid ((BB.out.trans (bu.mono BB.out.size)).alloc (BB.out.trans (bu.mono BB.out.size)).size (.cells #[.int .u64 jl, .int .u64 jh] 26))
      have BG1 := Lib.hid (below_alloc (BW.out.trans (bu.mono BW.out.size)) (.cells #[.int .u64 jl, .int .u64 jh] 26))
      have OB1 := Lib.hid (Ob.fresh wu1 26 [.int .u64 jl, .int .u64 jh])
      clear bu
      go_upto_region 8 with fail
      generalize wu1.alloc (.cells #[.int .u64 jl, .int .u64 jh] 26) = wv1 at BL1 BG1 OB1 ⊢
      generalize wu1.heap.size = p1 at OB1 ⊢
      go_wp2_with fail
      refine (C2.out wv1 A c ((HS.out.below BG1.out).pre k)).mono ?_
      rintro e wu2 ⟨rfl, bu⟩
      have BL2 := Lib.hid ((BL1.out.trans (bu.mono BL1.out.size)).alloc (BL1.out.trans (bu.mono BL1.out.size)).size (.cells #[.int .u64 jl, .int .u64 jh] 26))
      have BG2 := Lib.hid (below_alloc (BG1.out.trans (bu.mono BG1.out.size)) (.cells #[.int .u64 jl, .int .u64 jh] 26))
      have OB2 := Lib.hid (Ob.fresh wu2 26 [.int .u64 jl, .int .u64 jh])
      have OB1n := Lib.hid ((OB1.out.below bu OB1.out.lt).alloc (.cells #[.int .u64 jl, .int .u64 jh] 26))
      clear bu OB1
      go_upto_region 9 with fail
      generalize wu2.alloc (.cells #[.int .u64 jl, .int .u64 jh] 26) = wv2 at BL2 BG2 OB2 OB1n ⊢
      generalize wu2.heap.size = p2 at OB2 ⊢
      go_wp2_with fail
      refine (C3.out wv2 A2 c2 ((S2.out.below BL2.out).pre k)).mono ?_
      rintro e wu3 ⟨rfl, bu⟩
      have BL3 := Lib.hid ((BL2.out.trans (bu.mono BL2.out.size)).alloc (BL2.out.trans (bu.mono BL2.out.size)).size (.cells #[.int .u64 ml, .int .u64 mh] 26))
      have BG3 := Lib.hid (below_alloc (BG2.out.trans (bu.mono BG2.out.size)) (.cells #[.int .u64 ml, .int .u64 mh] 26))
      have OB3 := Lib.hid (Ob.fresh wu3 26 [.int .u64 ml, .int .u64 mh])
      have OB1nn := Lib.hid ((OB1n.out.below bu OB1n.out.lt).alloc (.cells #[.int .u64 ml, .int .u64 mh] 26))
      have OB2n := Lib.hid ((OB2.out.below bu OB2.out.lt).alloc (.cells #[.int .u64 ml, .int .u64 mh] 26))
      clear bu OB1n OB2
      go_upto_region 10 with fail
      generalize wu3.alloc (.cells #[.int .u64 ml, .int .u64 mh] 26) = wv3 at BL3 BG3 OB3 OB1nn OB2n ⊢
      generalize wu3.heap.size = p3 at OB3 ⊢
      go_wp2_with fail
      refine (C4.out wv3 A c ((HS.out.below BG3.out).pre k)).mono ?_
      rintro e wu4 ⟨rfl, bu⟩
      have BL4 := Lib.hid ((BL3.out.trans (bu.mono BL3.out.size)).alloc (BL3.out.trans (bu.mono BL3.out.size)).size (.cells #[.int .u64 ml, .int .u64 mh] 26))
      have BG4 := Lib.hid (below_alloc (BG3.out.trans (bu.mono BG3.out.size)) (.cells #[.int .u64 ml, .int .u64 mh] 26))
      have OB4 := Lib.hid (Ob.fresh wu4 26 [.int .u64 ml, .int .u64 mh])
      have OB1nnn := Lib.hid ((OB1nn.out.below bu OB1nn.out.lt).alloc (.cells #[.int .u64 ml, .int .u64 mh] 26))
      have OB2nn := Lib.hid ((OB2n.out.below bu OB2n.out.lt).alloc (.cells #[.int .u64 ml, .int .u64 mh] 26))
      have OB3n := Lib.hid ((OB3.out.below bu OB3.out.lt).alloc (.cells #[.int .u64 ml, .int .u64 mh] 26))
      clear bu OB1nn OB2n OB3
      go_upto_region 11 with fail
      generalize wu4.alloc (.cells #[.int .u64 ml, .int .u64 mh] 26) = wv4 at BL4 BG4 OB4 OB1nnn OB2nn OB3n ⊢
      generalize wu4.heap.size = p4 at OB4 ⊢
      have x00 : wv4.cell? ⟨p1, 0, none⟩ = some (.int .u64 jl) := OB1nnn.out.cell 0
      have x01 : wv4.cell? ⟨p1, 1, none⟩ = some (.int .u64 jh) := OB1nnn.out.cell 1
      have x10 : wv4.cell? ⟨p2, 0, none⟩ = some (.int .u64 jl) := OB2nn.out.cell 0
      have x11 : wv4.cell? ⟨p2, 1, none⟩ = some (.int .u64 jh) := OB2nn.out.cell 1
      have x20 : wv4.cell? ⟨p3, 0, none⟩ = some (.int .u64 ml) := OB3n.out.cell 0
      have x21 : wv4.cell? ⟨p3, 1, none⟩ = some (.int .u64 mh) := OB3n.out.cell 1
      have x30 : wv4.cell? ⟨p4, 0, none⟩ = some (.int .u64 ml) := OB4.out.cell 0
      have x31 : wv4.cell? ⟨p4, 1, none⟩ = some (.int .u64 mh) := OB4.out.cell 1
      have hdiv : (n : Int).tdiv 8 = ((n / 8 : Nat) : Int) := by rw [Int.tdiv_eq_ediv_of_nonneg (by omega)]; omega
      have hn8 : n / 8 ≤ n := Nat.div_le_self _ _
      go_wp2_with fail
      refine ⟨⟨k + 1 + n / 8, by omega, by go_num, BL4.out⟩, by simp [intOf]; omega⟩
    · have g1 : ¬ (k : Int) ≤ (n : Int) := by omega
      go_wp2_with fail
      go_loopw [13] (fun i wq => ∃ j : Nat, j ≤ n ∧ i = .int .i64 j ∧ Below wr.heap.size wr wq) (fun i _ => n - (intOf i).toNat)
      case atStart => exact ⟨0, Nat.zero_le _, rfl, Below.refl _ _⟩
      case round =>
        obtain ⟨j, hj, rfl, hb2⟩ := hrel
        have BQ := Lib.hid hb2
        clear hb2
        by_cases hlj : j < n
        · have g2 : (j : Int) < (n : Int) := by omega
          have hjl : j < l.length := by have := HN.out; omega
          obtain ⟨b, o, rfl, hb1, hc1⟩ := sps_at S2.out (by omega)
          obtain ⟨b', o', rfl, hb2, hc2'⟩ := sps_at HS.out (by omega)
          have BZ := Lib.hid (BB.out.trans (BQ.out.mono BB.out.size))
          have BY := Lib.hid (BW.out.trans (BQ.out.mono BW.out.size))
          have f0 := (BZ.out.cell hb1).trans (hc1 j hjl).1
          have f1 := (BZ.out.cell hb1).trans (hc1 j hjl).2
          have e0 := (BY.out.cell hb2).trans (hc2' j hjl).1
          have e1 := (BY.out.cell hb2).trans (hc2' j hjl).2
          clear hc1 hc2' hjl hb1 hb2
          generalize (l.getD j sp0).lo = sl at f0 e0
          generalize (l.getD j sp0).hi = sh at f1 e1
          go_wp2_with fail
          go_quiet (fail)
          go_wp2_with fail
          go_roundw
          case rel => exact ⟨j + 1, by omega, by go_num, below_drewN BQ.out _⟩
          case measure => simp [intOf]; omega
        · have g2 : ¬ (j : Int) < (n : Int) := by omega
          go_wp2_with fail
          go_ret
          exact ⟨rfl, BW.out.trans (BQ.out.mono BW.out.size)⟩

theorem open_spans {H : Type} {enc : TypeId × Value → H} {w : World} {base : Nat} {spare : Nat → Bool} {held : Bool} {fuel : Nat} {v : Value} {x : DataW H × List MemPlace}
    (h : DataW.trod enc Try.prog w base spare held fuel 22 [v] = some x) (hsz : ∀ y ∈ DataW.weights Try.prog 22 x.1, y ≤ reachBytes) : ∃ l : List {a : SpanV // Good a}, RdRow (fun a => spc a.1) 16 w v l := by
  have h1 := open_rows (⟨sp0, by unfold Good sp0; decide⟩ : {a : SpanV // Good a}) (fun a => spc a.1) 2 (fun _ => rfl) (by omega) Try.underlying22 (by kernel_rfl) (fun _ _ _ hx => by obtain ⟨a, ha, hg⟩ := span_cells hx; exact ⟨⟨a, hg⟩, ha⟩) h hsz
  rwa [show Try.prog.bytesOf 26 = 16 by kernel_rfl] at h1
theorem unsub (l : List {a : SpanV // Good a}) : l.flatMap (fun a => spc a.1) = sps (l.map (·.1)) := by unfold sps; rw [List.flatMap_map]

theorem joins_law (w : World) (l : List {a : SpanV // Good a}) (v : Value) (hr : RdRow (fun a => spc a.1) 16 w v l) :
    Calls Try.prog 3 #[v] w fun e w' => e = .returned (.bool true) ∧ Below w.heap.size w w' := by
  obtain ⟨A, c, rfl, hc, hm, hs⟩ := hr
  rw [unsub] at hs
  exact joins_walk w (l.map (·.1)) A l.length c (by simp) hc hm (fun s hs => by obtain ⟨a, _, rfl⟩ := List.mem_map.1 hs; exact a.2) hs

end Go.Proofs.Ytchlokhmcadgaaa
