/-
  plays of the law ScratchPlays: one call of a script, told to the scratch and to the book. Conditions: those of each theorem.
-/
import Derived.Test.YtkgiiahkednpmaaScratchF
namespace Go.Proofs.Ytkgiiahkednpmaa
open Go.RowKit

attribute [local go_sem] uv_nonneg uv_wrap uv_add uv_sub uv_add1 uv_sub1

/-- what a call adds to the book -/
def opAsks (x : OpS) : List AskV :=
  if x.kind = 1 then askAt 1 x.slot x.n else if x.kind = 2 then [⟨2, 0, 0#64⟩] else if x.kind = 3 then askAt 3 x.slot 1#64 else if x.kind = 5 then raiseAsks x.ns (min x.ns.length 16) else []

/-- how far a call has come: the scratch, the book, the call's own copy of its order -/
structure Pr (w0 w wc : World) (g gB q : Nat) (v u : Value) (W K : Nat → BitVec 64) (L : List AskV) (x : OpS) : Prop where
  scr : ScrAt wc g W K
  book : BookAt w0.heap.size wc gB u L
  box : Ob wc q 51 (opc x)
  tch : Tch (fun i => i = g ∨ i = gB ∨ v.ownBlock = some i) w wc
  blk : ∀ i, u.ownBlock = some i → v.ownBlock = some i ∨ w.heap.size ≤ i
  low : Below w0.heap.size w0 wc
  ng : w0.heap.size ≤ g
  nB : w0.heap.size ≤ gB
section
variable {w0 w wc w' : World} {g gB q : Nat} {v u u' : Value} {W K W' K' : Nat → BitVec 64} {L L' : List AskV} {x : OpS}
theorem Pr.scr' (P : Pr w0 w wc g gB q v u W K L x) (h : ScrAt w' g W' K') (hn : Only wc w' g) : Pr w0 w w' g gB q v u W' K' L x :=
  ⟨h, P.book.tch (Tch.of_only hn) (fun e => Ob.ne_ P.book.1 P.scr (by decide) e) (fun i hi e => own_typed P.book.2 P.scr (by decide) (e ▸ hi)), Ob.only P.box hn (Ob.ne_ P.box P.scr (by decide)),
    P.tch.then (Tch.of_only hn) (fun _ h => h) (fun _ h _ => .inl h), P.blk, Only.below P.low hn P.low.size P.ng, P.ng, P.nB⟩
theorem Pr.book' (P : Pr w0 w wc g gB q v u W K L x) (h : BGrew w0 wc w' gB u u' L') : Pr w0 w w' g gB q v u' W K L' x :=
  ⟨Ob.tch P.scr h.tch (fun e => e.elim (fun e => Ob.ne_ P.scr P.book.1 (by decide) e) fun e => own_typed P.book.2 P.scr (by decide) e), h.book,
    P.box.tch h.tch (fun e => e.elim (fun e => Ob.ne_ P.box P.book.1 (by decide) e) fun e => own_typed P.book.2 P.box (by decide) e),
    P.tch.then h.tch (fun _ h => h) (fun i hi hlt => hi.elim (fun e => .inr (.inl e)) fun e => (P.blk i e).elim (fun e => .inr (.inr e)) fun e => absurd hlt (Nat.not_lt.2 e)),
    fun i hi => (h.blk i hi).elim (P.blk i) fun e => .inr (Nat.le_trans P.tch.size e), h.low, P.ng, P.nB⟩
theorem Pr.more (P : Pr w0 w wc g gB q v u W K L x) (h : Below wc.heap.size wc w') : Pr w0 w w' g gB q v u W K L x :=
  ⟨Ob.below P.scr h (Ob.lt P.scr), P.book.below h, P.box.below h P.box.lt, P.tch.trans (Tch.of_below h), P.blk, P.low.trans (h.mono P.low.size), P.ng, P.nB⟩
theorem Pr.drew (P : Pr w0 w wc g gB q v u W K L x) : Pr w0 w wc.drew g gB q v u W K L x := P.more (below_drewN (Below.refl _ _) 1)
theorem Pr.drewN (P : Pr w0 w wc g gB q v u W K L x) (n : Nat) : Pr w0 w (wc.drewN n) g gB q v u W K L x := P.more (below_drewN (Below.refl _ _) n)
theorem Pr.eqW (P : Pr w0 w wc g gB q v u W K L x) (e : W = W') : Pr w0 w wc g gB q v u W' K L x := e ▸ P
theorem Pr.eqK (P : Pr w0 w wc g gB q v u W K L x) (e : K = K') : Pr w0 w wc g gB q v u W K' L x := e ▸ P
end

/-- what a call leaves -/
structure PG (w0 w w' : World) (g gB : Nat) (v v' : Value) (L : List AskV) : Prop where
  scr : ScrAt w' g (wsOf L) (ksOf L)
  book : BookAt w0.heap.size w' gB v' L
  tch : Tch (fun i => i = g ∨ i = gB ∨ v.ownBlock = some i) w w'
  blk : ∀ i, v'.ownBlock = some i → v.ownBlock = some i ∨ w.heap.size ≤ i
  low : Below w0.heap.size w0 w'
theorem Pr.done {w0 w wc : World} {g gB q : Nat} {v u : Value} {L : List AskV} {x : OpS} (P : Pr w0 w wc g gB q v u (wsOf L) (ksOf L) L x) : PG w0 w wc g gB v u L := ⟨P.scr, P.book, P.tch, P.blk, P.low⟩

set_option maxRecDepth 100000 in
set_option maxHeartbeats 4000000 in
theorem plays_any (w0 w : World) (g gB : Nat) (v : Value) (l : List AskV) (x : OpS) (hB : Below w0.heap.size w0 w) (hg : w0.heap.size ≤ g) (hgB : w0.heap.size ≤ gB) (hmax : l.length ≤ 90000) (hs : ScrAt w g (wsOf l) (ksOf l)) (hb : BookAt w0.heap.size w gB v l) (hx : OpOk w0 x) :
    Calls Try.prog 13 #[.pointer (some ⟨g, 0, none⟩), .pointer (some ⟨gB, 0, none⟩), opVal x] w fun e w' => e = .returned (.bool true) ∧ ∃ v', PG w0 w w' g gB v v' (l ++ opAsks x) := by
  have P0 : Hid (Pr w0 w (w.alloc (.cells #[.int .i64 x.kind, .int .i64 x.on, .int .i64 x.slot, .int .u64 (uv x.n), .slice x.A x.ns.length x.cap] 51)) g gB w.heap.size v v (wsOf l) (ksOf l) l x) := Lib.hid
    ⟨Ob.alloc hs _, hb.below (below_alloc (Below.refl _ _) _), Ob.fresh w 51 (opc x), Tch.of_below (below_alloc (Below.refl _ _) _), fun _ h => .inl h, below_alloc hB _, hg, hgB⟩
  have HX := Lib.hid hx
  clear hB hs hb hx
  obtain ⟨E, hE⟩ : ∃ E, opAsks x = E := ⟨_, rfl⟩
  rw [hE]
  have HE := Lib.hid hE
  clear hE
  unfold opVal
  go_enter Try.func13, Try.ntmps13
  go_upto_region 1 with fail
  generalize w.alloc (.cells #[.int .i64 x.kind, .int .i64 x.on, .int .i64 x.slot, .int .u64 (uv x.n), .slice x.A x.ns.length x.cap] 51) = w1 at P0 ⊢
  generalize w.heap.size = q at P0 ⊢
  have f0 : w1.cell? ⟨q, 0, none⟩ = some (.int .i64 x.kind) := P0.out.box.cell 0
  have f2 : w1.cell? ⟨q, 2, none⟩ = some (.int .i64 x.slot) := P0.out.box.cell 2
  have f3 : w1.cell? ⟨q, 3, none⟩ = some (.int .u64 (uv x.n)) := P0.out.box.cell 3
  have f4 : w1.cell? ⟨q, 4, none⟩ = some (.slice x.A x.ns.length x.cap) := P0.out.box.cell 4
  by_cases h0 : x.kind = 0
  · have h0' : (x.kind == 0) = true := by simpa using h0
    have HEE := Lib.hid (show E = [] by rw [← HE.out]; unfold opAsks; simp [h0])
    clear h0
    go_wp2_with fail
    go_region_held3 (fun w' => w'.cell? ⟨q, 2, none⟩ = some (.int .i64 x.slot)) (go_keep)
      (first
       | (go_at_call 16
          refine (sload x.slot w1.drew g (wsOf l) (ksOf l) P0.out.drew.scr).mono ?_
          rintro e w' ⟨rfl, rfl⟩))
    go_wp2_with fail
    refine (bword_any w1.drew w0.heap.size gB v l x.slot (by omega) P0.out.drew.book).mono ?_
    rintro e w' ⟨rfl, rfl⟩
    go_wp2_with fail
    go_ret
    exact ⟨rfl, v, by rw [HEE.out, List.append_nil]; exact P0.out.drew.done⟩
  · have h0' : (x.kind == 0) = false := by simpa using h0
    by_cases h1 : x.kind = 1
    · have h1' : (x.kind == 1) = true := by simpa using h1
      have HEE := Lib.hid (show E = askAt 1 x.slot x.n by rw [← HE.out]; unfold opAsks; simp [h1])
      clear h0 h1
      go_wp2_with fail
      go_region_held3 (fun w' => w'.cell? ⟨q, 2, none⟩ = some (.int .i64 x.slot) ∧ w'.cell? ⟨q, 3, none⟩ = some (.int .u64 (uv x.n))) (go_keep)
        (first
         | (go_at_call 15
            refine (sstore x.slot x.n w1.drew g l (ksOf l) P0.out.drew.scr).mono ?_
            rintro e w5 ⟨rfl, hs5, hn5⟩
            have P5 := Lib.hid (P0.out.drew.scr' hs5 hn5)
            have d2 : w5.cell? ⟨q, 2, none⟩ = some (.int .i64 x.slot) := P5.out.box.cell 2
            have d3 : w5.cell? ⟨q, 3, none⟩ = some (.int .u64 (uv x.n)) := P5.out.box.cell 3
            clear hs5 hn5)
         | (go_at_call 20
            refine (bstore_any w0 w5 gB v l x.slot x.n P5.out.low hgB (by omega) P5.out.book).mono ?_
            rintro e w6 ⟨rfl, u, h6⟩
            have P6 := Lib.hid ((P5.out.book' h6).eqK (ksOf_app1 l x.slot x.n).symm)
            have e2 : w6.cell? ⟨q, 2, none⟩ = some (.int .i64 x.slot) := P6.out.box.cell 2
            have e3 : w6.cell? ⟨q, 3, none⟩ = some (.int .u64 (uv x.n)) := P6.out.box.cell 3
            clear h6))
      go_wp2_with fail
      go_ret
      exact ⟨rfl, u, by rw [HEE.out]; exact P6.out.done⟩
    · have h1' : (x.kind == 1) = false := by simpa using h1
      by_cases h2 : x.kind = 2
      · have h2' : (x.kind == 2) = true := by simpa using h2
        have HEE := Lib.hid (show E = [⟨2, 0, 0#64⟩] by rw [← HE.out]; unfold opAsks; simp [h2])
        clear h0 h1 h2
        go_wp2_with fail
        refine (swipe w1 g l (ksOf l) P0.out.scr).mono ?_
        rintro e w5 ⟨rfl, hs5, hn5⟩
        have P5 := Lib.hid (P0.out.scr' hs5 hn5)
        clear hs5 hn5
        go_wp2_with fail
        refine (bwipe_any w0 w5 gB v l P5.out.low hgB (by omega) P5.out.book).mono ?_
        rintro e w6 ⟨rfl, u, h6⟩
        have P6 := Lib.hid ((P5.out.book' h6).eqK (ksOf_wipe l).symm)
        clear h6
        go_wp2_with fail
        go_ret
        exact ⟨rfl, u, by rw [HEE.out]; exact P6.out.done⟩
      · have h2' : (x.kind == 2) = false := by simpa using h2
        by_cases h3 : x.kind = 3
        · have h3' : (x.kind == 3) = true := by simpa using h3
          have HEE := Lib.hid (show E = askAt 3 x.slot 1#64 by rw [← HE.out]; unfold opAsks; simp [h3])
          clear h0 h1 h2 h3
          go_wp2_with fail
          go_region_held3 (fun w' => w'.cell? ⟨q, 2, none⟩ = some (.int .i64 x.slot)) (go_keep)
            (first
             | (go_at_call 12
                refine (smark x.slot w1.drew g (wsOf l) l P0.out.drew.scr).mono ?_
                rintro e w5 ⟨rfl, hs5, hn5⟩
                have P5 := Lib.hid (P0.out.drew.scr' hs5 hn5)
                have d2 : w5.cell? ⟨q, 2, none⟩ = some (.int .i64 x.slot) := P5.out.box.cell 2
                clear hs5 hn5))
          go_wp2_with fail
          refine (bmark_any w0 w5 gB v l x.slot P5.out.low hgB (by omega) P5.out.book).mono ?_
          rintro e w6 ⟨rfl, u, h6⟩
          have P6 := Lib.hid ((P5.out.book' h6).eqW (wsOf_app3 l x.slot 1#64).symm)
          clear h6
          go_wp2_with fail
          go_ret
          exact ⟨rfl, u, by rw [HEE.out]; exact P6.out.done⟩
        · have h3' : (x.kind == 3) = false := by simpa using h3
          by_cases h4 : x.kind = 4
          · have h4' : (x.kind == 4) = true := by simpa using h4
            have HEE := Lib.hid (show E = [] by rw [← HE.out]; unfold opAsks; simp [h4])
            clear h0 h1 h2 h3 h4
            go_wp2_with fail
            go_region_held3 (fun w' => w'.cell? ⟨q, 2, none⟩ = some (.int .i64 x.slot)) (go_keep)
              (first
               | (go_at_call 18
                  refine (scount x.slot w1.drew g (wsOf l) (ksOf l) P0.out.drew.scr).mono ?_
                  rintro e w' ⟨rfl, rfl⟩))
            go_wp2_with fail
            refine (bcount_any w1.drew w0.heap.size gB v l x.slot (by omega) P0.out.drew.book).mono ?_
            rintro e w' ⟨rfl, rfl⟩
            go_wp2_with fail
            go_ret
            exact ⟨rfl, v, by rw [HEE.out, List.append_nil]; exact P0.out.drew.done⟩
          · have h4' : (x.kind == 4) = false := by simpa using h4
            by_cases h5 : x.kind = 5
            · have h5' : (x.kind == 5) = true := by simpa using h5
              obtain ⟨i0, hi0, hz0, hz1, hz2⟩ := info_parts u64_info
              have HEE := Lib.hid (show E = raiseAsks x.ns (min x.ns.length 16) by rw [← HE.out]; unfold opAsks; simp [h5])
              clear h0 h1 h2 h3 h4 h5
              go_wp2_with fail
              have f4a : ∀ o', (w1.drew.alloc o').cell? ⟨q, 4, none⟩ = some (.slice x.A x.ns.length x.cap) := fun o' => (Below.cell (below_alloc (Below.refl w1.heap.size w1) o') (cell_lt f4)).trans f4
              refine wp_region_held_drew (S := fun w' => w'.cell? ⟨q, 4, none⟩ = some (.slice x.A x.ns.length x.cap)) (by kernel_rfl) f4 (fun hHeld => ?_)
              refine wpAnyH_take (i := 0) (v := ?_) rfl (by kernel_rfl) (by kernel_rfl) (by kernel_rfl) (fun _ _ _ h => h) (Or.inl ⟨by rfl, ?_⟩) (by assumption) ?_
              rotate_left
              · (intro w' hSw; (try dsimp only at hSw); go_simp; try with_reducible rfl)
              try simp only [Act.put]
              refine wpAnyH_take (i := 1) (v := ?_) rfl (by kernel_rfl) (by kernel_rfl) (by kernel_rfl) (fun _ _ _ h => h) (Or.inl ⟨by rfl, ?_⟩) (by assumption) ?_
              rotate_left
              · (intro w' hSw; (try dsimp only at hSw); go_simp; try with_reducible rfl)
              try simp only [Act.put]
              refine wpAnyH_take (i := 2) (v := ?_) rfl (by kernel_rfl) (by kernel_rfl) (by kernel_rfl) (fun _ _ _ h => h) (Or.inl ⟨by rfl, ?_⟩) (by assumption) ?_
              rotate_left
              · (intro w' hSw; (try dsimp only at hSw); go_simp; try with_reducible rfl)
              try simp only [Act.put]
              refine wpAnyH_take (i := 4) (v := ?_) rfl (by kernel_rfl) (by kernel_rfl) (by kernel_rfl) (fun _ _ _ h => h) (Or.inl ⟨by rfl, ?_⟩) (by assumption) ?_
              rotate_left
              · (intro w' hSw; (try dsimp only at hSw); go_simp; try with_reducible rfl)
              try simp only [Act.put]
              refine wpAnyH_take (i := 5) (v := ?_) rfl (by kernel_rfl) (by kernel_rfl) (by kernel_rfl) (fun _ _ _ h => h) (Or.inl ⟨by rfl, ?_⟩) (by assumption) ?_
              rotate_left
              · (intro w' hSw; (try dsimp only at hSw); go_simp; try with_reducible rfl)
              try simp only [Act.put]
              refine wpAnyH_ready (rs := [3]) (by kernel_rfl) (by simp) ?_
              refine AllReadyH.cons rfl (fun K' hK => ?_) AllReadyH.nil
              go_simp
              refine hK.out _ _ (f4a _) (fun hHeld => ?_)
              clear hK K'
              try simp only [Act.put]
              refine wpAnyH_ready (rs := [6]) (by kernel_rfl) (by simp) ?_
              refine AllReadyH.cons rfl (fun K' hK => ?_) AllReadyH.nil
              rw [if_pos (by rfl)]
              refine wp_append_sl _ (.tmp 129) (.tmp 131) _ rfl w0.heap.size 27 i0 _ 1 8 Try.underlying22 hi0 hz0 hz1 hz2 rfl (by omega) (.slice (some ⟨w1.heap.size, 0, none⟩) 0 0) 0 [] rfl (own_empty P0.out.drew.low _ _)
                x.A x.ns.length x.cap (words x.ns) rfl (by rw [words_length, Nat.mul_one]) (HX.out.2.below (below_alloc P0.out.drew.low _)) (words_one _) (by have := HX.out.1; simp only [maxLen]; omega) (by have := HX.out.1; omega) (below_alloc P0.out.drew.low _).size (fun v2 w2 hown g1 g2 => ?_)
              have hb2 : Below w1.heap.size w1 w2 := by
                have h1 : Below w1.heap.size w1 (w1.drew.alloc (.cells #[] 27)) := (below_alloc (below_drewN (Below.refl w1.heap.size w1) 1) _)
                exact h1.grown g1 h1.size fun j hj => by
                  have : w1.heap.size = j := by simpa [Value.ownBlock] using hj
                  omega
              have P2 := Lib.hid (P0.out.more hb2)
              obtain ⟨A2, c2, rfl, hA2, _, hsl2, _⟩ := own_form hown
              have HO := Lib.hid hown
              have f5 : w2.cell? ⟨q, 4, none⟩ = some (.slice x.A x.ns.length x.cap) := P2.out.box.cell 4
              clear hb2 g1 g2
              refine hK.out _ _ f5 (fun hHeld => ?_)
              clear hK K'
              try simp only [Act.put]
              refine wpAnyH_ready (rs := [7]) (by kernel_rfl) (by simp) ?_
              refine AllReadyH.cons rfl (fun K' hK => ?_) AllReadyH.nil
              go_simp
              refine (raise_any g 16 c2 x.ns.length A2 34 (arr 16 (wsOf l)) [] (ksOf l) x.ns rfl (by rw [arr_length]) w2 P2.out.scr (own_sl HO.out) (fun p hp => ?_) (by have := HX.out.1; omega)).mono ?_
              · intro hpg
                subst hp
                obtain ⟨b, o, s⟩ := p
                subst hpg
                rcases HO.out.2 with ⟨h1, _⟩ | ⟨g', cap, cur, h1, _, hg', _⟩
                · cases h1
                · injection h1 with h1 _ _
                  injection h1 with h1
                  injection h1 with h1 _ _
                  subst h1
                  have h2 : w2.heap[b]? = some (.cells _ _ (0, 0)) := P2.out.scr
                  rw [hg'] at h2
                  injection h2 with h2
                  injection h2 with _ h2
                  exact absurd h2 (by decide)
              rintro e w3 hm
              have P3 := Lib.hid (P2.out.scr' (W' := wsOf l) (K' := ksOf (l ++ raiseAsks x.ns (min x.ns.length 16))) (by unfold ScrAt; rw [arr_raise]; exact hm.2.1) hm.2.2)
              obtain rfl := hm.1
              have f6 : w3.cell? ⟨q, 4, none⟩ = some (.slice x.A x.ns.length x.cap) := P3.out.box.cell 4
              clear hm
              go_wp2_with fail
              refine hK.out _ _ f6 (fun hHeld => ?_)
              clear hK K'
              try simp only [Act.put]
              refine wpAnyH_done (by kernel_rfl) ?_ _
              go_wp2_with fail
              refine (braise_any w0 w3 gB v l x.A x.ns.length x.cap x.ns rfl P3.out.low hgB (by omega) (by have := HX.out.1; omega) HX.out.2 P3.out.book).mono ?_
              rintro e w6 ⟨rfl, u, h6⟩
              have P6 := Lib.hid ((P3.out.book' h6).eqW (wsOf_raise l x.ns (min x.ns.length 16)).symm)
              clear h6
              go_wp2_with fail
              go_ret
              exact ⟨rfl, u, by rw [HEE.out]; exact P6.out.done⟩
            · have h5' : (x.kind == 5) = false := by simpa using h5
              have HEE := Lib.hid (show E = [] by rw [← HE.out]; unfold opAsks; simp [h1, h2, h3, h5])
              clear h0 h1 h2 h3 h4 h5
              go_wp2_with fail
              refine (totals_new [some (g, wsOf l, ksOf l)] w1 (fun y hy => by
                rcases List.mem_cons.1 hy with rfl | hy
                · exact P0.out.scr
                · cases hy) _ (by rfl) 1 (by rfl) (by omega)).mono ?_
              rintro e w5 ⟨r, rfl, hr, b5⟩
              obtain ⟨gr, cap, rest, rfl, hgr, obr, _, _, _, _⟩ := own_ob hr (by omega)
              have P5 := Lib.hid (P0.out.more b5)
              rw [show arr 16 (tot [some (g, wsOf l, ksOf l)]) = arr 16 (btot [some (gB, v, l)]) from arr_congr fun j _ => by simp [tot, btot, cntOf, bcnt]] at obr
              have O5 : Hid (Ob w5 gr 27 ([] ++ (arr 16 (btot [some (gB, v, l)]) ++ rest))) := Lib.hid obr
              clear hr b5 obr hgr
              go_wp2_with fail
              refine (btotals_new [some (gB, v, l)] w0.heap.size w5 (fun y hy => by
                rcases List.mem_cons.1 hy with rfl | hy
                · exact ⟨P5.out.book, by show l.length ≤ _; omega⟩
                · cases hy) _ (by rfl) _ (by rfl) 1 (by rfl) (by omega)).mono ?_
              rintro e w6 ⟨g6, rfl, o6, b6⟩
              have P6 := Lib.hid (P5.out.more b6)
              have O6 := Lib.hid (O5.out.below b6 O5.out.lt)
              have R6 := Lib.hid o6
              clear o6 b6
              go_wp2_with fail
              refine (numbers_ob (btot [some (gB, v, l)]) gr g6 _ _ cap 16 rest [] w6 O6.out R6.out).mono ?_
              rintro e w7 ⟨rfl, d7, rfl⟩
              go_wp2_with fail
              go_ret
              exact ⟨rfl, v, by rw [HEE.out, List.append_nil]; exact (P6.out.drewN d7).done⟩

end Go.Proofs.Ytkgiiahkednpmaa
