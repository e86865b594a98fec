/-
  The reference's functions of layer 10 that note: Store, Wipe, Mark, Raise. Conditions: those of each theorem.
-/
import Derived.Test.YtkgiiahkednpmaaScratchC
import Derived.Deep.RegionHeld3
namespace Go.Proofs.Ytkgiiahkednpmaa
open Go.RowKit

attribute [local go_sem] uv_nonneg uv_wrap uv_add uv_sub uv_add1 uv_sub1

theorem BGrew.mid {w0 w w' : World} {g : Nat} {v : Value} {l : List AskV} (o : Obj) (h : BookAt w0.heap.size w g v l) (g1 : (w.alloc o).grownBy w' v.ownBlock) : Ob w' g 48 [v] :=
  Ob.grown h.1 ((World.grownBy_alloc w o _).trans g1) fun e => own_typed h.2 h.1 (by decide) e.symm

theorem grown_undrew {w w' : World} {row : Option Nat} (h : w.drew.grownBy w' row) : w.grownBy w' row := ⟨h.os, h.tape, h.output, h.size, h.block⟩
theorem in_of_nat {y : Nat} (h : y < 16) : 0 ≤ (y : Int) ∧ (y : Int) < 16 := by omega
theorem askAt_in (kd : Int) (y : Nat) (n : BitVec 64) (h : y < 16) : askAt kd (y : Int) n = [⟨kd, y, n⟩] := by unfold askAt; rw [if_pos (in_of_nat h), Int.toNat_natCast]
theorem askAt_out (kd : Int) (i : Int) (n : BitVec 64) (h : Out i) : askAt kd i n = [] := by unfold askAt; rw [if_neg (by unfold Out at h; omega)]
theorem codeOf_nat {y : Nat} (h : y < 16) : codeOf (y : Int) = 0 := by unfold codeOf; rw [if_pos (in_of_nat h)]
theorem codeOf_out' {i : Int} (h : Out i) : codeOf i = 35 := by unfold codeOf; rw [if_neg (by unfold Out at h; omega)]
theorem valAt_in (ks : Nat → BitVec 64) {y : Nat} (h : y < 16) : valAt ks (y : Int) = ks y := by unfold valAt; rw [if_pos (in_of_nat h), Int.toNat_natCast]
theorem valAt_out (ks : Nat → BitVec 64) {i : Int} (h : Out i) : valAt ks i = 0#64 := by unfold valAt; rw [if_neg (by unfold Out at h; omega)]
theorem in_or_out (i : Int) : (∃ y : Nat, i = (y : Int) ∧ y < 16) ∨ Out i := by
  by_cases h : 0 ≤ i ∧ i < 16
  · exact .inl ⟨i.toNat, by omega, by omega⟩
  · exact .inr (by unfold Out; omega)

/-- Word and Count, wherever -/
theorem bword_any (w : World) (B g : Nat) (v : Value) (l : List AskV) (i : Int) (hmax : l.length ≤ 4611686018427387904) (h : BookAt B w g v l) :
    Calls Try.prog 19 #[.pointer (some ⟨g, 0, none⟩), .int .i64 i] w fun e w' => e = .returned (.tuple #[.int .u64 (uv (valAt (wsOf l) i)), .int .i64 (codeOf i)]) ∧ w = w' := by
  rcases in_or_out i with ⟨y, rfl, hy⟩ | ho
  · rw [valAt_in _ hy, codeOf_nat hy]
    obtain ⟨A, c, rfl, hs⟩ := h.form
    exact bword_in w g A l.length c l y hy rfl hmax h.1 hs
  · rw [valAt_out _ ho, codeOf_out' ho]
    exact bword_out w _ i ho
theorem bcount_any (w : World) (B g : Nat) (v : Value) (l : List AskV) (i : Int) (hmax : l.length ≤ 4611686018427387904) (h : BookAt B w g v l) :
    Calls Try.prog 23 #[.pointer (some ⟨g, 0, none⟩), .int .i64 i] w fun e w' => e = .returned (.tuple #[.int .u64 (uv (valAt (ksOf l) i)), .int .i64 (codeOf i)]) ∧ w = w' := by
  rcases in_or_out i with ⟨y, rfl, hy⟩ | ho
  · rw [valAt_in _ hy, codeOf_nat hy]
    obtain ⟨A, c, rfl, hs⟩ := h.form
    exact bcount_in w g A l.length c l y hy rfl hmax h.1 hs
  · rw [valAt_out _ ho, codeOf_out' ho]
    exact bcount_out w _ i ho

set_option maxRecDepth 100000 in
set_option maxHeartbeats 1000000 in
theorem bstore_any (w0 w : World) (g : Nat) (v : Value) (l : List AskV) (i : Int) (n : BitVec 64) (hB : Below w0.heap.size w0 w) (hg : w0.heap.size ≤ g) (hmax : l.length ≤ 1000000) (h : BookAt w0.heap.size w g v l) :
    Calls Try.prog 20 #[.pointer (some ⟨g, 0, none⟩), .int .i64 i, .int .u64 (uv n)] w fun e w' => e = .returned (.int .i64 (codeOf i)) ∧ ∃ v', BGrew w0 w w' g v v' (l ++ askAt 1 i n) := by
  have hc : w.cell? ⟨g, 0, none⟩ = some v := h.1.cell 0
  have hgl : g < w.heap.size := h.1.lt
  have HB := Lib.hid hB
  have HK := Lib.hid h
  clear hB h
  rcases in_or_out i with ⟨y, rfl, hy⟩ | ho
  · rw [askAt_in 1 y n hy, codeOf_nat hy]
    obtain ⟨i0, hi0, hz0, hz1, hz2⟩ := info_parts ask_info
    go_enter Try.func20, Try.ntmps20
    go_wp2_with
      (at_builtin
       refine wpList_append_in _ rfl (.tmp 17) (.tmp 21) _ rfl (below_alloc HB.out _) 64 i0 _ 3 24 Try.underlying46 hi0 hz0 hz1 hz2 rfl (by omega) v l.length (akvs l) rfl (World.ownsRow.alloc HK.out.2 _)
         (some ⟨w.heap.size, 0, none⟩) 1 1 (akv ⟨1, y, n⟩) rfl rfl (Sl.fresh w (akv ⟨1, y, n⟩).toArray 64 (0, 0)) (akv_one _) (by omega) (by omega) ?_
       intro v2 w2 hown hb2 g1 g2
       obtain ⟨A2, c2, rfl, _, _, _, _⟩ := own_form hown
       have HG := Lib.hid (BGrew.snoc (w := w) (t := ⟨1, y, n⟩) _ HK.out hg hown hb2 g1 g2)
       have OM := Lib.hid (BGrew.mid (w := w) _ HK.out g1)
       have zl : ∀ i, w2.frozen? ⟨g, i, none⟩ = false := OM.out.frozen
       have y0 : w2.cell? ⟨g, 0, none⟩ = some v := OM.out.cell 0
       clear hown hb2 g1 g2 hc)
    go_ret
    exact ⟨rfl, _, HG.out⟩
  · rw [askAt_out 1 i n ho, codeOf_out' ho, List.append_nil]
    rcases ho with h0 | h0
    · go_enter Try.func20, Try.ntmps20
      go_wp2_with fail
      go_ret
      exact ⟨rfl, v, BGrew.refl HK.out HB.out⟩
    · have h1 : ¬ i < 0 := by omega
      have h2 : 15 < i := by omega
      go_enter Try.func20, Try.ntmps20
      go_wp2_with fail
      go_ret
      exact ⟨rfl, v, BGrew.refl HK.out HB.out⟩

set_option maxRecDepth 100000 in
set_option maxHeartbeats 1000000 in
theorem bwipe_any (w0 w : World) (g : Nat) (v : Value) (l : List AskV) (hB : Below w0.heap.size w0 w) (hg : w0.heap.size ≤ g) (hmax : l.length ≤ 1000000) (h : BookAt w0.heap.size w g v l) :
    Calls Try.prog 21 #[.pointer (some ⟨g, 0, none⟩)] w fun e w' => e = .returned (.tuple #[]) ∧ ∃ v', BGrew w0 w w' g v v' (l ++ [⟨2, 0, 0#64⟩]) := by
  have hc : w.cell? ⟨g, 0, none⟩ = some v := h.1.cell 0
  have hgl : g < w.heap.size := h.1.lt
  have HB := Lib.hid hB
  have HK := Lib.hid h
  clear hB h
  obtain ⟨i0, hi0, hz0, hz1, hz2⟩ := info_parts ask_info
  go_enter Try.func21, Try.ntmps21
  go_wp2_with
    (at_builtin
     refine wpList_append_in _ rfl (.tmp 6) (.tmp 8) _ rfl (below_alloc HB.out _) 64 i0 _ 3 24 Try.underlying46 hi0 hz0 hz1 hz2 rfl (by omega) v l.length (akvs l) rfl (World.ownsRow.alloc HK.out.2 _)
       (some ⟨w.heap.size, 0, none⟩) 1 1 (akv ⟨2, 0, 0#64⟩) rfl rfl (Sl.fresh w (akv ⟨2, 0, 0#64⟩).toArray 64 (0, 0)) (akv_one _) (by omega) (by omega) ?_
     intro v2 w2 hown hb2 g1 g2
     obtain ⟨A2, c2, rfl, _, _, _, _⟩ := own_form hown
     have HG := Lib.hid (BGrew.snoc (w := w) (t := ⟨2, 0, 0#64⟩) _ HK.out hg hown hb2 g1 g2)
     have OM := Lib.hid (BGrew.mid (w := w) _ HK.out g1)
     have zl : ∀ i, w2.frozen? ⟨g, i, none⟩ = false := OM.out.frozen
     have y0 : w2.cell? ⟨g, 0, none⟩ = some v := OM.out.cell 0
     clear hown hb2 g1 g2 hc)
  go_end0
  exact ⟨rfl, _, HG.out⟩

set_option maxRecDepth 100000 in
set_option maxHeartbeats 1000000 in
theorem bmark_any (w0 w : World) (g : Nat) (v : Value) (l : List AskV) (i : Int) (hB : Below w0.heap.size w0 w) (hg : w0.heap.size ≤ g) (hmax : l.length ≤ 1000000) (h : BookAt w0.heap.size w g v l) :
    Calls Try.prog 22 #[.pointer (some ⟨g, 0, none⟩), .int .i64 i] w fun e w' => e = .returned (.tuple #[.int .u64 (uv (valAt (ksOf (l ++ askAt 3 i 1#64)) i)), .int .i64 (codeOf i)]) ∧ ∃ v', BGrew w0 w w' g v v' (l ++ askAt 3 i 1#64) := by
  have hc : w.cell? ⟨g, 0, none⟩ = some v := h.1.cell 0
  have hgl : g < w.heap.size := h.1.lt
  have HB := Lib.hid hB
  have HK := Lib.hid h
  clear hB h
  rcases in_or_out i with ⟨y, rfl, hy⟩ | ho
  · rw [askAt_in 3 y 1#64 hy, codeOf_nat hy, valAt_in _ hy]
    have HY := Lib.hid hy
    obtain ⟨i0, hi0, hz0, hz1, hz2⟩ := info_parts ask_info
    go_enter Try.func22, Try.ntmps22
    go_wp2_with
      (at_builtin
       refine wpList_append_in _ rfl (.tmp 16) (.tmp 19) _ rfl (below_alloc HB.out _) 64 i0 _ 3 24 Try.underlying46 hi0 hz0 hz1 hz2 rfl (by omega) v l.length (akvs l) rfl (World.ownsRow.alloc HK.out.2 _)
         (some ⟨w.heap.size, 0, none⟩) 1 1 (akv ⟨3, y, 1#64⟩) rfl rfl (Sl.fresh w (akv ⟨3, y, 1#64⟩).toArray 64 (0, 0)) (akv_one _) (by omega) (by omega) ?_
       intro v2 w2 hown hb2 g1 g2
       obtain ⟨A2, c2, rfl, _, _, _, _⟩ := own_form hown
       have HG := Lib.hid (BGrew.snoc (w := w) (t := ⟨3, y, 1#64⟩) _ HK.out hg hown hb2 g1 g2)
       have OM := Lib.hid (BGrew.mid (w := w) _ HK.out g1)
       have zl : ∀ i, w2.frozen? ⟨g, i, none⟩ = false := OM.out.frozen
       have y0 : w2.cell? ⟨g, 0, none⟩ = some v := OM.out.cell 0
       clear hown hb2 g1 g2 hc)
    refine (bcount_any _ _ g _ _ (y : Int) (by simp; omega) HG.out.book).mono ?_
    rintro e w' ⟨rfl, rfl⟩
    rw [valAt_in _ HY.out, codeOf_nat HY.out]
    go_wp2_with fail
    go_ret2
    exact ⟨rfl, _, HG.out⟩
  · rw [askAt_out 3 i 1#64 ho, codeOf_out' ho, List.append_nil, valAt_out _ ho]
    rcases ho with h0 | h0
    · go_enter Try.func22, Try.ntmps22
      go_wp2_with fail
      go_ret2
      exact ⟨rfl, v, BGrew.refl HK.out HB.out⟩
    · have h1 : ¬ i < 0 := by omega
      have h2 : 15 < i := by omega
      go_enter Try.func22, Try.ntmps22
      go_wp2_with fail
      go_ret2
      exact ⟨rfl, v, BGrew.refl HK.out HB.out⟩

/-- what Raise notes of the first k numbers -/
def raiseAsks (ns : List (BitVec 64)) (k : Nat) : List AskV := (List.range k).map fun i => ⟨3, i, wordAt ns i⟩
theorem raiseAsks_len (ns : List (BitVec 64)) (k : Nat) : (raiseAsks ns k).length = k := by simp [raiseAsks]
theorem raiseAsks_succ (ns : List (BitVec 64)) (k : Nat) : raiseAsks ns (k + 1) = raiseAsks ns k ++ [⟨3, k, wordAt ns k⟩] := by simp [raiseAsks, List.range_succ]

set_option maxRecDepth 100000 in
set_option maxHeartbeats 2000000 in
theorem braise_any (w0 w : World) (g : Nat) (v : Value) (l : List AskV) (A : Option Addr) (n c : Nat) (ns : List (BitVec 64)) (hn : n = ns.length) (hB : Below w0.heap.size w0 w) (hg : w0.heap.size ≤ g) (hmax : l.length ≤ 100000) (hn8 : n ≤ 4611686018427387904) (hs : Sl w0 A (words ns)) (h : BookAt w0.heap.size w g v l) :
    Calls Try.prog 24 #[.pointer (some ⟨g, 0, none⟩), .slice A n c] w fun e w' => e = .returned (.tuple #[]) ∧ ∃ v', BGrew w0 w w' g v v' (l ++ raiseAsks ns (min n 16)) := by
  have HB0 := Lib.hid hB
  have HK0 := Lib.hid h
  have HS := Lib.hid hs
  have HN := Lib.hid hn
  clear hB h hs hn
  obtain ⟨i0, hi0, hz0, hz1, hz2⟩ := info_parts ask_info
  go_enter Try.func24, Try.ntmps24
  go_wp2_with fail
  go_loopw [4] (fun i wr => ∃ (k : Nat) (u : Value), k ≤ n ∧ k ≤ 16 ∧ i = .int .i64 k ∧ BGrew w0 w wr g v u (l ++ raiseAsks ns k)) (fun i _ => n - (intOf i).toNat)
  case atStart => exact ⟨0, v, Nat.zero_le _, Nat.zero_le _, rfl, by simpa [raiseAsks] using BGrew.refl HK0.out HB0.out⟩
  case round =>
    obtain ⟨k, u, hk, hk16, rfl, hgr⟩ := hrel
    have GR := Lib.hid hgr
    clear hgr
    by_cases hlt : k < n ∧ k < 16
    · have h1 := hlt.1
      have h2 := hlt.2
      clear hlt
      obtain ⟨b, o, rfl, hcc⟩ := HS.out.words_at (by have := HN.out; omega)
      have f1 := hcc k (by have := HN.out; omega)
      have f00 := f1
      replace f1 := (GR.out.low.cell (cell_lt f1)).trans f1
      clear hcc
      have hLen := Lib.hid (show (l ++ raiseAsks ns k).length = l.length + k by rw [List.length_append, raiseAsks_len])
      have HSU := Lib.hid (raiseAsks_succ ns k)
      have hc : wr.cell? ⟨g, 0, none⟩ = some u := GR.out.book.1.cell 0
      have hgl : g < wr.heap.size := GR.out.book.1.lt
      have g1 : (k : Int) < (n : Int) := by omega
      have g2 : (k : Int) < 16 := by omega
      have HKR := Lib.hid GR.out.book
      have HBR := Lib.hid GR.out.low
      generalize hx : wordAt ns k = x at f1 f00 HSU
      clear hx
      generalize hLe : l ++ raiseAsks ns k = L at HKR GR hLen
      have HL := Lib.hid hLe
      have HLen := hLen
      clear hLe hLen
      have hca : ∀ o', (wr.drew.alloc o').cell? ⟨g, 0, none⟩ = some u := fun o' => (Below.cell (below_alloc (Below.refl wr.heap.size wr) o') hgl).trans hc
      have f1a : ∀ o', (wr.drew.alloc o').cell? ⟨b, o + k, none⟩ = some (.int .u64 (uv x)) := fun o' => (Below.cell (below_alloc (Below.refl wr.heap.size wr) o') (cell_lt f1)).trans f1
      go_wp2_with fail
      refine wp_region_held_drew (S := fun w' => w'.cell? ⟨b, o + k, none⟩ = some (.int .u64 (uv x))) (by kernel_rfl) f1 (fun hHeld => ?_)
      refine wpAnyH_take (i := 0) (v := ?_) rfl (by kernel_rfl) (by kernel_rfl) (by kernel_rfl) (fun _ _ _ h => h) (Or.inl ⟨by rfl, ?_⟩) (by assumption) ?_
      rotate_left
      · (intro w' hSw; (try dsimp only at hSw); go_simp; try with_reducible rfl)
      try simp only [Act.put]
      refine wpAnyH_take (i := 1) (v := ?_) rfl (by kernel_rfl) (by kernel_rfl) (by kernel_rfl) (fun _ _ _ h => h) (Or.inl ⟨by rfl, ?_⟩) (by assumption) ?_
      rotate_left
      · (intro w' hSw; (try dsimp only at hSw); go_simp; try with_reducible rfl)
      try simp only [Act.put]
      refine wpAnyH_take (i := 2) (v := ?_) rfl (by kernel_rfl) (by kernel_rfl) (by kernel_rfl) (fun _ _ _ h => h) (Or.inl ⟨by rfl, ?_⟩) (by assumption) ?_
      rotate_left
      · (intro w' hSw; (try dsimp only at hSw); go_simp; try with_reducible rfl)
      try simp only [Act.put]
      refine wpAnyH_take (i := 3) (v := ?_) rfl (by kernel_rfl) (by kernel_rfl) (by kernel_rfl) (fun _ _ _ h => h) (Or.inl ⟨by rfl, ?_⟩) (by assumption) ?_
      rotate_left
      · (intro w' hSw; (try dsimp only at hSw); go_simp; try with_reducible rfl)
      try simp only [Act.put]
      refine wpAnyH_take (i := 5) (v := ?_) rfl (by kernel_rfl) (by kernel_rfl) (by kernel_rfl) (fun _ _ _ h => h) (Or.inl ⟨by rfl, ?_⟩) (by assumption) ?_
      rotate_left
      · (intro w' hSw; (try dsimp only at hSw); go_simp; try with_reducible rfl)
      try simp only [Act.put]
      refine wpAnyH_take (i := 6) (v := ?_) rfl (by kernel_rfl) (by kernel_rfl) (by kernel_rfl) (fun _ _ _ h => h) (Or.inl ⟨by rfl, ?_⟩) (by assumption) ?_
      rotate_left
      · (intro w' hSw; (try dsimp only at hSw); go_simp; try with_reducible rfl)
      try simp only [Act.put]
      refine wpAnyH_take (i := 7) (v := ?_) rfl (by kernel_rfl) (by kernel_rfl) (by kernel_rfl) (fun _ _ _ h => h) (Or.inl ⟨by rfl, ?_⟩) (by assumption) ?_
      rotate_left
      · (intro w' hSw; (try dsimp only at hSw); go_simp; try with_reducible rfl)
      try simp only [Act.put]
      refine wpAnyH_take (i := 8) (v := ?_) rfl (by kernel_rfl) (by kernel_rfl) (by kernel_rfl) (fun _ _ _ h => h) (Or.inl ⟨by rfl, ?_⟩) (by assumption) ?_
      rotate_left
      · (intro w' hSw; (try dsimp only at hSw); go_simp; try with_reducible rfl)
      try simp only [Act.put]
      refine wpAnyH_take (i := 9) (v := ?_) rfl (by kernel_rfl) (by kernel_rfl) (by kernel_rfl) (fun _ _ _ h => h) (Or.inl ⟨by rfl, ?_⟩) (by assumption) ?_
      rotate_left
      · (intro w' hSw; (try dsimp only at hSw); go_simp; try with_reducible rfl)
      try simp only [Act.put]
      refine wpAnyH_take (i := 10) (v := ?_) rfl (by kernel_rfl) (by kernel_rfl) (by kernel_rfl) (fun _ _ _ h => h) (Or.inl ⟨by rfl, ?_⟩) (by assumption) ?_
      rotate_left
      · (intro w' hSw; (try dsimp only at hSw); go_simp; try with_reducible rfl)
      try simp only [Act.put]
      refine wpAnyH_ready (rs := [4, 11]) (by kernel_rfl) (by simp) ?_
      refine AllReadyH.cons rfl (fun K' hK => ?_) (AllReadyH.cons rfl (fun K' hK => ?_) AllReadyH.nil)
      · go_simp
        refine hK.out _ _ f1 (fun hHeld => ?_)
        clear hK K'
        try simp only [Act.put]
        refine wpAnyH_ready (rs := [11]) (by kernel_rfl) (by simp) ?_
        refine AllReadyH.cons rfl (fun K' hK => ?_) AllReadyH.nil
        go_simp
        refine hK.out _ _ (f1a _) (fun hHeld => ?_)
        clear hK K'
        try simp only [Act.put]
        refine wpAnyH_ready (rs := [12]) (by kernel_rfl) (by simp) ?_
        refine AllReadyH.cons rfl (fun K' hK => ?_) AllReadyH.nil
        rw [if_pos (by rfl)]
        refine wp_append_sl _ (.tmp 19) (.tmp 26) _ rfl w0.heap.size 64 i0 _ 3 24 Try.underlying46 hi0 hz0 hz1 hz2 rfl (by omega) u L.length (akvs L) rfl (World.ownsRow.alloc HKR.out.2 _)
          (some ⟨wr.heap.size, 0, none⟩) 1 1 (akv ⟨3, k, x⟩) rfl rfl (Sl.fresh wr (akv ⟨3, k, x⟩).toArray 64 (0, 0)) (akv_one _) (by have := HLen.out; simp [maxLen]; omega) (by have := HLen.out; omega) (below_alloc HBR.out _).size (fun v2 w2 hown g1d g2 => ?_)
        have g1 := grown_undrew g1d
        clear g1d
        have hb2 : Below w0.heap.size w0 w2 := (below_alloc HBR.out _).grown g1 (below_alloc HBR.out _).size fun j hj => (World.ownsRow.lt HKR.out.2 j hj).1
        obtain ⟨A2, c2, rfl, _, _, _, _⟩ := own_form hown
        have HG := Lib.hid (GR.out.trans (BGrew.snoc (w := wr) (t := ⟨3, k, x⟩) _ HKR.out hg hown hb2 g1 g2))
        have OM := Lib.hid (BGrew.mid (w := wr) _ HKR.out g1)
        have zl : ∀ i, w2.frozen? ⟨g, i, none⟩ = false := OM.out.frozen
        have y0 : w2.cell? ⟨g, 0, none⟩ = some u := OM.out.cell 0
        have f2 : w2.cell? ⟨b, o + k, none⟩ = some (.int .u64 (uv x)) := (hb2.cell (cell_lt f00)).trans f00
        have f3 : (w2.setCell ⟨g, 0, none⟩ (.slice A2 (L.length + 1) c2)).cell? ⟨b, o + k, none⟩ = some (.int .u64 (uv x)) := (HG.out.low.cell (cell_lt f00)).trans f00
        clear hown hb2 g1 g2 hc hca
        refine hK.out _ _ f2 (fun hHeld => ?_)
        clear hK K'
        try simp only [Act.put]
        refine wpAnyH_take (i := 13) (v := ?_) rfl (by kernel_rfl) (by kernel_rfl) (by kernel_rfl) (fun _ _ _ h => h) (Or.inl ⟨by rfl, ?_⟩) (by assumption) ?_
        rotate_left
        · (intro w' hSw; (try dsimp only at hSw); go_simp; try with_reducible rfl)
        try simp only [Act.put]
        refine wpAnyH_take (i := 14) (v := ?_) rfl (by kernel_rfl) (by kernel_rfl) (by kernel_rfl) (fun _ _ _ h => h) (Or.inl ⟨by rfl, ?_⟩) (by assumption) ?_
        rotate_left
        · (intro w' hSw; (try dsimp only at hSw); go_simp; try with_reducible rfl)
        try simp only [Act.put]
        refine wpAnyH_ready (rs := [15]) (by kernel_rfl) (by simp) ?_
        refine AllReadyH.cons rfl (fun K' hK => ?_) AllReadyH.nil
        go_simp
        refine hK.out _ _ f3 (fun hHeld => ?_)
        clear hK K'
        try simp only [Act.put]
        refine wpAnyH_done (by kernel_rfl) ?_ _
        go_wp2_with fail
        go_roundw
        case rel => exact ⟨k + 1, _, by omega, by omega, by go_num, by rw [HSU.out, ← List.append_assoc, HL.out]; exact HG.out⟩
        case measure => simp [intOf]; omega
      · go_simp
        refine hK.out _ _ (f1a _) (fun hHeld => ?_)
        clear hK K'
        try simp only [Act.put]
        refine wpAnyH_ready (rs := [4]) (by kernel_rfl) (by simp) ?_
        refine AllReadyH.cons rfl (fun K' hK => ?_) AllReadyH.nil
        go_simp
        refine hK.out _ _ (f1a _) (fun hHeld => ?_)
        clear hK K'
        try simp only [Act.put]
        refine wpAnyH_ready (rs := [12]) (by kernel_rfl) (by simp) ?_
        refine AllReadyH.cons rfl (fun K' hK => ?_) AllReadyH.nil
        rw [if_pos (by rfl)]
        refine wp_append_sl _ (.tmp 19) (.tmp 26) _ rfl w0.heap.size 64 i0 _ 3 24 Try.underlying46 hi0 hz0 hz1 hz2 rfl (by omega) u L.length (akvs L) rfl (World.ownsRow.alloc HKR.out.2 _)
          (some ⟨wr.heap.size, 0, none⟩) 1 1 (akv ⟨3, k, x⟩) rfl rfl (Sl.fresh wr (akv ⟨3, k, x⟩).toArray 64 (0, 0)) (akv_one _) (by have := HLen.out; simp [maxLen]; omega) (by have := HLen.out; omega) (below_alloc HBR.out _).size (fun v2 w2 hown g1d g2 => ?_)
        have g1 := grown_undrew g1d
        clear g1d
        have hb2 : Below w0.heap.size w0 w2 := (below_alloc HBR.out _).grown g1 (below_alloc HBR.out _).size fun j hj => (World.ownsRow.lt HKR.out.2 j hj).1
        obtain ⟨A2, c2, rfl, _, _, _, _⟩ := own_form hown
        have HG := Lib.hid (GR.out.trans (BGrew.snoc (w := wr) (t := ⟨3, k, x⟩) _ HKR.out hg hown hb2 g1 g2))
        have OM := Lib.hid (BGrew.mid (w := wr) _ HKR.out g1)
        have zl : ∀ i, w2.frozen? ⟨g, i, none⟩ = false := OM.out.frozen
        have y0 : w2.cell? ⟨g, 0, none⟩ = some u := OM.out.cell 0
        have f2 : w2.cell? ⟨b, o + k, none⟩ = some (.int .u64 (uv x)) := (hb2.cell (cell_lt f00)).trans f00
        have f3 : (w2.setCell ⟨g, 0, none⟩ (.slice A2 (L.length + 1) c2)).cell? ⟨b, o + k, none⟩ = some (.int .u64 (uv x)) := (HG.out.low.cell (cell_lt f00)).trans f00
        clear hown hb2 g1 g2 hc hca
        refine hK.out _ _ f2 (fun hHeld => ?_)
        clear hK K'
        try simp only [Act.put]
        refine wpAnyH_take (i := 13) (v := ?_) rfl (by kernel_rfl) (by kernel_rfl) (by kernel_rfl) (fun _ _ _ h => h) (Or.inl ⟨by rfl, ?_⟩) (by assumption) ?_
        rotate_left
        · (intro w' hSw; (try dsimp only at hSw); go_simp; try with_reducible rfl)
        try simp only [Act.put]
        refine wpAnyH_take (i := 14) (v := ?_) rfl (by kernel_rfl) (by kernel_rfl) (by kernel_rfl) (fun _ _ _ h => h) (Or.inl ⟨by rfl, ?_⟩) (by assumption) ?_
        rotate_left
        · (intro w' hSw; (try dsimp only at hSw); go_simp; try with_reducible rfl)
        try simp only [Act.put]
        refine wpAnyH_ready (rs := [15]) (by kernel_rfl) (by simp) ?_
        refine AllReadyH.cons rfl (fun K' hK => ?_) AllReadyH.nil
        go_simp
        refine hK.out _ _ f3 (fun hHeld => ?_)
        clear hK K'
        try simp only [Act.put]
        refine wpAnyH_done (by kernel_rfl) ?_ _
        go_wp2_with fail
        go_roundw
        case rel => exact ⟨k + 1, _, by omega, by omega, by go_num, by rw [HSU.out, ← List.append_assoc, HL.out]; exact HG.out⟩
        case measure => simp [intOf]; omega
    · have hx : ¬ (k : Int) < (n : Int) ∨ ((k : Int) < (n : Int) ∧ ¬ (k : Int) < 16) := by omega
      have hkm : k = min n 16 := by omega
      rcases hx with hx | ⟨hx, hy⟩
      all_goals
        go_wp2_with fail
        go_end0
        exact ⟨rfl, u, by rw [← hkm]; exact GR.out⟩

end Go.Proofs.Ytkgiiahkednpmaa
