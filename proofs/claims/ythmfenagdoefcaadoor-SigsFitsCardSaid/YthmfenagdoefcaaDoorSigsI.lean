/-
  The walk of the law SigsChecks. Conditions: those of each theorem.
-/
import Derived.Test.YthmfenagdoefcaaDoorSigsL
import Derived.Test.YthmfenagdoefcaaDoorOpenR
namespace Go.Proofs.YthmfenagdoefcaaDoor
open Go.RowKit

theorem type_cells {H : Type} {enc : TypeId × Value → H} {w : World} {base : Nat} {sp : Nat → Bool} {held : Bool} {fuel : Nat} {cs : List Value} {x : DataW H × List MemPlace}
    (h : DataW.trod enc Tryd.prog w base sp held fuel 31 cs = some x) : ∃ a, cs = tyc a := by
  obtain ⟨xs, n, rfl, hx, hl, hxl, hall⟩ := DataW.trod_struct Tryd.underlying31 h
  have h0 := hall 0 _ rfl
  have h1 := hall 1 _ rfl
  have h2 := hall 2 _ rfl
  have hc : cs.length = 4 := hl.trans (by kernel_rfl)
  have hxl3 : xs.length = 3 := hxl
  clear hall hl hx
  match xs, hxl3 with
  | [x0, x1, x2], _ =>
  match cs, hc with
  | [c0, c1, c2, c3], _ =>
  obtain ⟨n0, q0, _, _⟩ := DataW.trod_int Tryd.underlying26 (x := x0) h0
  obtain ⟨n3, q3, _, _⟩ := DataW.trod_int Tryd.underlying3 (x := x2) h2
  have h1' : DataW.trod enc Tryd.prog w base sp held n 29 [c1, c2] = some x1 := h1
  obtain ⟨ys, m, rfl, _, _, hyl, hal⟩ := DataW.trod_struct Tryd.underlying29 h1'
  have k0 := hal 0 _ rfl
  have k1 := hal 1 _ rfl
  have hyl2 : ys.length = 2 := hyl
  match ys, hyl2 with
  | [y0, y1], _ =>
  obtain ⟨n1, q1, _, _⟩ := DataW.trod_int Tryd.underlying27 (x := y0) k0
  obtain ⟨n2, q2, _, _⟩ := DataW.trod_int Tryd.underlying27 (x := y1) k1
  have g0 : [c0] = [.int .i64 n0] := q0
  have g1 : [c1] = [.int .u64 n1] := q1
  have g2 : [c2] = [.int .u64 n2] := q2
  have g3 : [c3] = [.int .i64 n3] := q3
  simp only [List.cons.injEq, and_true] at g0 g1 g2 g3
  subst g0 g1 g2 g3
  exact ⟨⟨n0, n1, n2, n3⟩, rfl⟩

theorem open_types {H : Type} {enc : TypeId × Value → H} {w : World} {base : Nat} {spare : Nat → Bool} {held : Bool} {fuel : Nat} {v : Value} {x : DataW H × List MemPlace}
    (h : DataW.trod enc Tryd.prog w base spare held fuel 23 [v] = some x) (hsz : ∀ y ∈ DataW.weights Tryd.prog 23 x.1, y ≤ reachBytes) : ∃ l : List TypeV, RdRow tyc 32 w v l := by
  have h1 := open_rows ty0 tyc 4 (fun _ => rfl) (by omega) Tryd.underlying23 (by kernel_rfl) (fun _ _ _ hx => type_cells hx) h hsz
  rwa [show Tryd.prog.bytesOf 31 = 32 by kernel_rfl] at h1

set_option maxRecDepth 100000 in
set_option maxHeartbeats 4000000 in
theorem checks_walk (w : World) (h : Int) (l : List TypeV) (A : Option Addr) (n c : Nat) (hn : n = l.length) (hm : n * 32 ≤ 140737488351232) (ht : Tab w) (hs : Sl w A (tys l)) :
    Calls Tryd.prog 4 #[.int .i64 h, .slice A n c] w fun e w' => e = .returned (.bool true) ∧ Below w.heap.size w w' := by
  have HT := Lib.hid ht
  have HS := Lib.hid hs
  have HN := Lib.hid hn
  clear ht hs hn
  obtain ⟨i0, hi0, hz0, hz1, hz2⟩ := info_parts type_info
  go_enter Tryd.func4, Tryd.ntmps4
  go_wp2_with fail
  refine (awake_any w HT.out).mono ?_
  rintro e w0 ⟨rfl, b0⟩
  have B0 := Lib.hid b0
  clear b0
  go_wp2_with
    (at_builtin
     refine wpList_append_in _ rfl (.tmp 9) (.tmp 10) _ rfl (below_alloc B0.out _) 31 i0 _ 4 32 Tryd.underlying23 hi0 hz0 hz1 hz2 rfl (by omega) (.slice (some ⟨w0.heap.size, 0, none⟩) 0 0) 0 [] rfl (own_empty B0.out _ _)
       A n c (tys l) rfl (by rw [tys_length, ← HN.out]) (HS.out.below (below_alloc B0.out _)) (tys_allone _) (by omega) (by omega) ?_
     intro v2 w2 hown hb2 _ _
     obtain ⟨A2, c2, rfl, _, _, hsl2, _⟩ := own_form hown
     simp only [Nat.zero_add, List.nil_append] at hsl2
     have S2 := Lib.hid hsl2
     have B2 := Lib.hid hb2
     clear hown hb2 hsl2)
  go_loopw [6] (fun i wr => ∃ k : Nat, k ≤ 7 ∧ i = .int .i64 k ∧ Below w2.heap.size w2 wr) (fun i _ => 7 - (intOf i).toNat)
  case atStart => exact ⟨0, Nat.zero_le _, rfl, Below.refl _ _⟩
  case round =>
    obtain ⟨k, hk, rfl, hb⟩ := hrel
    have BB := Lib.hid hb
    have BW := Lib.hid (B2.out.trans (hb.mono B2.out.size))
    have SR := Lib.hid (S2.out.below hb)
    clear hb
    by_cases hlt : k < 7
    · have g1 : (k : Int) < 7 := by omega
      go_wp2_with fail
      refine (check_any wr k l A2 n c2 HN.out (by omega) (HT.out.below BW.out) SR.out).mono ?_
      rintro e w4 ⟨rfl, b4⟩
      have B4 := Lib.hid (BB.out.trans (b4.mono BB.out.size))
      have W4 := Lib.hid (BW.out.trans (b4.mono BW.out.size))
      clear b4
      go_wp2_with fail
      refine (rcheck_any w4 k l A n c HN.out (by omega) (HS.out.below W4.out)).mono ?_
      rintro e w5 ⟨rfl, b5⟩
      have B5 := Lib.hid (B4.out.trans (b5.mono B4.out.size))
      clear b5
      generalize ckOf k l = z
      go_wp2_with fail
      refine ⟨⟨k + 1, by omega, by go_num, B5.out⟩, by simp [intOf]; omega⟩
    · have g1 : ¬ (k : Int) < 7 := by omega
      go_wp2_with fail
      refine (check_any wr h l A2 n c2 HN.out (by omega) (HT.out.below BW.out) SR.out).mono ?_
      rintro e w4 ⟨rfl, b4⟩
      have W4 := Lib.hid (BW.out.trans (b4.mono BW.out.size))
      have S4 := Lib.hid (SR.out.below b4)
      clear b4
      go_wp2_with fail
      refine (rcheck_any w4 h l A n c HN.out (by omega) (HS.out.below W4.out)).mono ?_
      rintro e w5 ⟨rfl, b5⟩
      have W5 := Lib.hid (W4.out.trans (b5.mono W4.out.size))
      have S5 := Lib.hid (S4.out.below b5)
      clear b5
      generalize ckOf h l = z
      go_wp2_with fail
      refine (alike_eq w5 l A2 A n c2 c HN.out (by omega) S5.out (HS.out.below W5.out)).mono ?_
      rintro e w6 ⟨rfl, b6⟩
      have W6 := Lib.hid (W5.out.trans (b6.mono W5.out.size))
      clear b6
      go_wp2_with fail
      go_ret
      exact ⟨rfl, W6.out⟩

theorem checks_law (w : World) (ht : Tab w) (h : Int) (_ : (Lit.int .i64 h).wf = true) (l : List TypeV) (v : Value) (hr : RdRow tyc 32 w v l) :
    Calls Tryd.prog 4 #[.int .i64 h, v] w fun e w' => e = .returned (.bool true) ∧ Below w.heap.size w w' := by
  obtain ⟨A, c, rfl, hc, hm, hs⟩ := hr
  exact checks_walk w h l A l.length c rfl hm ht hs

end Go.Proofs.YthmfenagdoefcaaDoor
