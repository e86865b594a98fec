/-
  The state of the law ScratchPlays: two scratches, two books; what moves it; Totals of none. Conditions: none.
-/
import Derived.Test.YtkgiiahkednpmaaScratchG
namespace Go.Proofs.Ytkgiiahkednpmaa
open Go.RowKit

attribute [local go_sem] uv_nonneg uv_wrap uv_add uv_sub uv_add1 uv_sub1

set_option maxRecDepth 100000 in
set_option maxHeartbeats 800000 in
theorem totals_none (A : Option Addr) (c : Nat) (w : World) :
    Calls Try.prog 10 #[.slice A 0 c] w fun e w' => ∃ v, e = .returned v ∧ w'.ownsRow w.heap.size 27 1 v 16 (arr 16 zz) ∧ Below w.heap.size w w' := by
  obtain ⟨i0, hi0, hz0, hz1, hz2⟩ := info_parts u64_info
  have HO0 : Hid (Ob (w.alloc (.cells (arr 16 zz).toArray 32)) w.heap.size 32 ([] ++ (arr 16 zz ++ []))) := Lib.hid (by simpa using Ob.fresh w 32 (arr 16 zz))
  have HB0 : Hid (Below w.heap.size w (w.alloc (.cells (arr 16 zz).toArray 32))) := Lib.hid (below_alloc (Below.refl w.heap.size w) _)
  have HL : Hid ((arr 16 zz).length = 16 * 1) := Lib.hid (arr_length _ _)
  go_enter Try.func10, Try.ntmps10
  go_wp2_with fail
  refine wp_loop_rounds 1 ?_
  rw [rounds_succ]
  have HSL := Lib.hid HO0.out.arr_sl
  go_wp2_with
    (at_builtin
     refine wpList_append_in _ rfl _ (.tmp 22) _ rfl HB0.out 27 i0 _ 1 8 Try.underlying22 hi0 hz0 hz1 hz2 rfl (by omega) (.slice none 0 0) 0 [] rfl (World.ownsRow_nil _ _ _ _)
       (some ⟨w.heap.size, 0, none⟩) 16 16 (arr 16 zz) rfl HL.out HSL.out (arr_one _ _) (by omega) (by omega) ?_
     intro v2 w2 hown hb2 g1 g2
     clear g1 g2)
  go_ret
  exact ⟨v2, rfl, hown, hb2⟩

/-- two scratches, two books, the slices that hold them: all made since the call began -/
structure Duo (w wr : World) (gs gb s0 s1 b0 b1 : Nat) (v0 v1 : Value) (l0 l1 : List AskV) : Prop where
  x0 : ScrAt wr s0 (wsOf l0) (ksOf l0)
  x1 : ScrAt wr s1 (wsOf l1) (ksOf l1)
  k0 : BookAt w.heap.size wr b0 v0 l0
  k1 : BookAt w.heap.size wr b1 v1 l1
  sA : Ob wr gs 24 [.pointer (some ⟨s0, 0, none⟩), .pointer (some ⟨s1, 0, none⟩)]
  bA : Ob wr gb 45 [.pointer (some ⟨b0, 0, none⟩), .pointer (some ⟨b1, 0, none⟩)]
  low : Below w.heap.size w wr
  n0 : w.heap.size ≤ s0
  n1 : w.heap.size ≤ s1
  m0 : w.heap.size ≤ b0
  m1 : w.heap.size ≤ b1
  ss : s0 ≠ s1
  bb : b0 ≠ b1
  dis : ∀ g, v0.ownBlock = some g → v1.ownBlock ≠ some g

section
variable {w wr w' : World} {gs gb s0 s1 b0 b1 : Nat} {v0 v1 v' : Value} {l0 l1 l : List AskV}
theorem Duo.step0 (T : Duo w wr gs gb s0 s1 b0 b1 v0 v1 l0 l1) (h : PG w wr w' s0 b0 v0 v' l) : Duo w w' gs gb s0 s1 b0 b1 v' v1 l l1 := by
  have no {g : Nat} {t : TypeId} {cs : List Value} (ho : Ob wr g t cs) (h1 : g ≠ s0) (h2 : g ≠ b0) (h3 : 64 ≠ t) : ¬ (g = s0 ∨ g = b0 ∨ v0.ownBlock = some g) :=
    fun e => e.elim h1 fun e => e.elim h2 fun e => own_typed T.k0.2 ho h3 e
  refine ⟨h.scr, Ob.tch T.x1 h.tch (no T.x1 T.ss.symm (Ob.ne_ T.x1 T.k0.1 (by decide)) (by decide)), h.book,
    T.k1.tch h.tch (no T.k1.1 (Ob.ne_ T.k1.1 T.x0 (by decide)) T.bb.symm (by decide)) (fun i hi e => ?_),
    T.sA.tch h.tch (no T.sA (Ob.ne_ T.sA T.x0 (by decide)) (Ob.ne_ T.sA T.k0.1 (by decide)) (by decide)), T.bA.tch h.tch (no T.bA (Ob.ne_ T.bA T.x0 (by decide)) (Ob.ne_ T.bA T.k0.1 (by decide)) (by decide)),
    h.low, T.n0, T.n1, T.m0, T.m1, T.ss, T.bb, fun g hg hg1 => ?_⟩
  · rcases e with rfl | rfl | e
    · exact own_typed T.k1.2 T.x0 (by decide) hi
    · exact own_typed T.k1.2 T.k0.1 (by decide) hi
    · exact T.dis i e hi
  · rcases h.blk g hg with h1 | h1
    · exact T.dis g h1 hg1
    · have := (World.ownsRow.lt T.k1.2 g hg1).2; omega
theorem Duo.step1 (T : Duo w wr gs gb s0 s1 b0 b1 v0 v1 l0 l1) (h : PG w wr w' s1 b1 v1 v' l) : Duo w w' gs gb s0 s1 b0 b1 v0 v' l0 l := by
  have no {g : Nat} {t : TypeId} {cs : List Value} (ho : Ob wr g t cs) (h1 : g ≠ s1) (h2 : g ≠ b1) (h3 : 64 ≠ t) : ¬ (g = s1 ∨ g = b1 ∨ v1.ownBlock = some g) :=
    fun e => e.elim h1 fun e => e.elim h2 fun e => own_typed T.k1.2 ho h3 e
  refine ⟨Ob.tch T.x0 h.tch (no T.x0 T.ss (Ob.ne_ T.x0 T.k1.1 (by decide)) (by decide)), h.scr,
    T.k0.tch h.tch (no T.k0.1 (Ob.ne_ T.k0.1 T.x1 (by decide)) T.bb (by decide)) (fun i hi e => ?_), h.book,
    T.sA.tch h.tch (no T.sA (Ob.ne_ T.sA T.x1 (by decide)) (Ob.ne_ T.sA T.k1.1 (by decide)) (by decide)), T.bA.tch h.tch (no T.bA (Ob.ne_ T.bA T.x1 (by decide)) (Ob.ne_ T.bA T.k1.1 (by decide)) (by decide)),
    h.low, T.n0, T.n1, T.m0, T.m1, T.ss, T.bb, fun g hg0 hg => ?_⟩
  · rcases e with rfl | rfl | e
    · exact own_typed T.k0.2 T.x1 (by decide) hi
    · exact own_typed T.k0.2 T.k1.1 (by decide) hi
    · exact T.dis i hi e
  · rcases h.blk g hg with h1 | h1
    · exact T.dis g hg0 h1
    · have := (World.ownsRow.lt T.k0.2 g hg0).2; omega
theorem Duo.more (T : Duo w wr gs gb s0 s1 b0 b1 v0 v1 l0 l1) (h : Below wr.heap.size wr w') : Duo w w' gs gb s0 s1 b0 b1 v0 v1 l0 l1 :=
  ⟨Ob.below T.x0 h (Ob.lt T.x0), Ob.below T.x1 h (Ob.lt T.x1), T.k0.below h, T.k1.below h, T.sA.below h T.sA.lt, T.bA.below h T.bA.lt, T.low.trans (h.mono T.low.size), T.n0, T.n1, T.m0, T.m1, T.ss, T.bb, T.dis⟩
theorem Duo.drew (T : Duo w wr gs gb s0 s1 b0 b1 v0 v1 l0 l1) : Duo w wr.drew gs gb s0 s1 b0 b1 v0 v1 l0 l1 := T.more (below_drewN (Below.refl _ _) 1)
theorem Duo.drewN (T : Duo w wr gs gb s0 s1 b0 b1 v0 v1 l0 l1) (n : Nat) : Duo w (wr.drewN n) gs gb s0 s1 b0 b1 v0 v1 l0 l1 := T.more (below_drewN (Below.refl _ _) n)
end

theorem opAsks_len (x : OpS) : (opAsks x).length ≤ 16 := by
  unfold opAsks
  split
  · unfold askAt; split <;> simp
  · split
    · simp
    · split
      · unfold askAt; split <;> simp
      · split
        · rw [raiseAsks_len]; omega
        · simp
theorem len_up (a k : Nat) (h : a ≤ k * 16) : a ≤ (k + 1) * 16 := by omega
theorem len_add (a : List AskV) (x : OpS) (k : Nat) (h : a.length ≤ k * 16) : (a ++ opAsks x).length ≤ (k + 1) * 16 := by
  have := opAsks_len x
  rw [List.length_append]
  omega
theorem meas (n k : Nat) (h : k < n) : n - (intOf (.int .i64 ((k : Int) + 1))).toNat < n - (intOf (.int .i64 (k : Int))).toNat := by simp [intOf]; omega

/-- plays of an order that only asks -/
theorem plays_lit (k : Int) (hk : k = 0 ∨ k = 4) (i : Int) (w0 w : World) (g gB : Nat) (v : Value) (l : List AskV) (hB : Below w0.heap.size w0 w) (hg : w0.heap.size ≤ g) (hgB : w0.heap.size ≤ gB) (hmax : l.length ≤ 90000) (hs : ScrAt w g (wsOf l) (ksOf l)) (hb : BookAt w0.heap.size w gB v l) :
    Calls Try.prog 13 #[.pointer (some ⟨g, 0, none⟩), .pointer (some ⟨gB, 0, none⟩), .agg #[.int .i64 k, .int .i64 0, .int .i64 i, .int .u64 0, .slice none 0 0]] w fun e w' => e = .returned (.bool true) ∧ ∃ v', PG w0 w w' g gB v v' l := by
  have h := plays_any w0 w g gB v l ⟨k, 0, i, 0#64, [], none, 0⟩ hB hg hgB hmax hs hb ⟨by simp, Sl.nil _ _⟩
  have e : opAsks ⟨k, 0, i, 0#64, [], none, 0⟩ = [] := by unfold opAsks; rcases hk with rfl | rfl <;> rfl
  rw [e, List.append_nil] at h
  exact h

theorem tot_btot (l0 l1 : List AskV) (s0 s1 b0 b1 : Nat) (v0 v1 : Value) : arr 16 (tot [some (s0, wsOf l0, ksOf l0), none, some (s1, wsOf l1, ksOf l1), some (s0, wsOf l0, ksOf l0)]) = arr 16 (btot [some (b0, v0, l0), none, some (b1, v1, l1), some (b0, v0, l0)]) :=
  arr_congr fun j _ => by simp [tot, btot, cntOf, bcnt]

theorem ob_pad {w : World} {g : Nat} {t : TypeId} {F : Nat → BitVec 64} (h : Ob w g t (arr 16 F)) : Ob w g t ([] ++ (arr 16 F ++ [])) := by simpa using h

end Go.Proofs.Ytkgiiahkednpmaa
