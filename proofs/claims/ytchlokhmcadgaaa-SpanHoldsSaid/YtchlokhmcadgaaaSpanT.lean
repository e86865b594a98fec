/-
  Layer 6: the walk of inside; what holds all along in the law SpanHolds. Conditions: those of each theorem.
-/
import Derived.Test.YtchlokhmcadgaaaSpanR
namespace Go.Proofs.Ytchlokhmcadgaaa
open Go.RowKit

attribute [local go_sem] uv_nonneg uv_wrap uv_add uv_sub uv_mul uv_add1 uv_sub1 uv_tmod uv_mod

theorem uv_isMost {x : BitVec 64} (h : x = mostB) : (uv x == 18446744073709551615) = true := by rw [h]; exact beq_self_eq_true _
theorem uv_notMost {x : BitVec 64} (h : x ≠ mostB) : (uv x == 18446744073709551615) = false := (uv_beq x mostB).trans (decide_eq_false h)
theorem one_more {x : BitVec 64} (h : x ≠ mostB) : ¬ uv (x + 1#64) = 0 := by
  have h1 : x.toNat ≠ 18446744073709551615 := fun e => h (BitVec.eq_of_toNat_eq (by rw [e]; rfl))
  have h2 := x.isLt
  have h3 : (1#64).toNat = 1 := rfl
  unfold uv
  rw [BitVec.toNat_add, h3]
  omega

set_option maxRecDepth 100000 in
set_option maxHeartbeats 4000000 in
theorem inside_any (w : World) (al ah n : BitVec 64) : Calls Try.prog 23 #[spVal (uv al) (uv ah), .int .u64 (uv n)] w fun e w' => e = .returned (.int .u64 (uv (insideV al ah n))) ∧ Below w.heap.size w w' := by
  obtain ⟨V, hV⟩ : ∃ V, insideV al ah n = V := ⟨_, rfl⟩
  rw [hV]
  unfold spVal
  have HB := Lib.hid (below_alloc (Below.refl w.heap.size w) (.cells #[.int .u64 (uv al), .int .u64 (uv ah)] 26))
  have HO := Lib.hid (Ob.fresh w 26 [.int .u64 (uv al), .int .u64 (uv ah)])
  by_cases h : ah - al = mostB
  · have HR := Lib.hid (show V = n by rw [← hV]; exact if_pos h)
    have g1 := uv_isMost h
    clear hV h
    go_enter Try.func23, Try.ntmps23
    go_upto_region 1 with fail
    generalize w.alloc (.cells #[.int .u64 (uv al), .int .u64 (uv ah)] 26) = w3 at HB HO ⊢
    obtain ⟨q, hq⟩ : ∃ q, w.heap.size = q := ⟨_, rfl⟩
    rw [hq] at HO ⊢
    clear hq
    have c0 : w3.cell? ⟨q, 0, none⟩ = some (.int .u64 (uv al)) := HO.out.cell 0
    have c1 : w3.cell? ⟨q, 1, none⟩ = some (.int .u64 (uv ah)) := HO.out.cell 1
    go_wp2_with fail
    go_ret
    exact ⟨by rw [HR.out] <;> first | done | rfl, HB.out⟩
  · have HR := Lib.hid (show V = al + n % (ah - al + 1#64) by rw [← hV]; exact if_neg h)
    have g1 := uv_notMost h
    have g2 := one_more h
    clear hV h
    go_enter Try.func23, Try.ntmps23
    go_upto_region 1 with fail
    generalize w.alloc (.cells #[.int .u64 (uv al), .int .u64 (uv ah)] 26) = w3 at HB HO ⊢
    obtain ⟨q, hq⟩ : ∃ q, w.heap.size = q := ⟨_, rfl⟩
    rw [hq] at HO ⊢
    clear hq
    have c0 : w3.cell? ⟨q, 0, none⟩ = some (.int .u64 (uv al)) := HO.out.cell 0
    have c1 : w3.cell? ⟨q, 1, none⟩ = some (.int .u64 (uv ah)) := HO.out.cell 1
    go_wp2_with fail
    go_region
    go_wp2_with fail
    go_ret
    exact ⟨by rw [HR.out] <;> first | done | rfl, below_drewN HB.out 1⟩

/-- what is so all along -/
structure HoldsAt (w0 w : World) (p3 p4 bx ox bY oY : Nat) (al ah bl bh : Int) (xs ys : List Value) : Prop where
  a : Ob w p3 26 [.int .u64 al, .int .u64 ah]
  b : Ob w p4 26 [.int .u64 bl, .int .u64 bh]
  x : Sl w (some ⟨bx, ox, none⟩) xs
  y : Sl w (some ⟨bY, oY, none⟩) ys
  bel : Below w0.heap.size w0 w
section
variable {w0 w w' : World} {p3 p4 bx ox bY oY : Nat} {al ah bl bh : Int} {xs ys : List Value}
theorem HoldsAt.below (h : HoldsAt w0 w p3 p4 bx ox bY oY al ah bl bh xs ys) (b : Below w.heap.size w w') : HoldsAt w0 w' p3 p4 bx ox bY oY al ah bl bh xs ys :=
  ⟨h.a.below b h.a.lt, h.b.below b h.b.lt, h.x.below b, h.y.below b, h.bel.trans (b.mono h.bel.size)⟩
theorem HoldsAt.alloc (h : HoldsAt w0 w p3 p4 bx ox bY oY al ah bl bh xs ys) (o : Obj) : HoldsAt w0 (w.alloc o) p3 p4 bx ox bY oY al ah bl bh xs ys :=
  h.below (below_alloc (Below.refl _ _) o)
theorem HoldsAt.drewN (h : HoldsAt w0 w p3 p4 bx ox bY oY al ah bl bh xs ys) (n : Nat) : HoldsAt w0 (w.drewN n) p3 p4 bx ox bY oY al ah bl bh xs ys :=
  h.below (below_drewN (Below.refl _ _) n)
end
theorem laid1 (w : World) (a b c d : Int) : Ob ((w.alloc (.cells #[.int .u64 a, .int .u64 b] 26)).alloc (.cells #[.int .u64 c, .int .u64 d] 26)).drew w.heap.size 26 [.int .u64 a, .int .u64 b] := (Ob.fresh w 26 [.int .u64 a, .int .u64 b]).alloc _
theorem laid2 (w : World) (a b c d : Int) : Ob ((w.alloc (.cells #[.int .u64 a, .int .u64 b] 26)).alloc (.cells #[.int .u64 c, .int .u64 d] 26)).drew (w.heap.size + 1) 26 [.int .u64 c, .int .u64 d] := by
  have h := Ob.fresh (w.alloc (.cells #[.int .u64 a, .int .u64 b] 26)) 26 [.int .u64 c, .int .u64 d]
  have h2 : (w.alloc (.cells #[.int .u64 a, .int .u64 b] 26)).heap.size = w.heap.size + 1 := by simp
  rw [h2] at h
  exact h
theorem below_drewN' (w : World) (n : Nat) : Below w.heap.size w (w.drewN n) := below_drewN (Below.refl _ _) n
theorem below_new (w : World) (o : Obj) : Below w.heap.size w (w.alloc o) := below_alloc (Below.refl _ _) o
/-- a number of the three -/
theorem pick3 {w : World} {b o : Nat} {al ah x : BitVec 64} (h : Sl w (some ⟨b, o, none⟩) [.int .u64 (uv al), .int .u64 (uv ah), .int .u64 (uv x)]) (h0 : al.toNat ≤ ah.toNat) (h1 : al.toNat ≤ x.toNat) (h2 : x.toNat ≤ ah.toNat) (k : Nat) (hk : k < 3) :
    ∃ z : BitVec 64, al.toNat ≤ z.toNat ∧ z.toNat ≤ ah.toNat ∧ w.cell? ⟨b, o + k, none⟩ = some (.int .u64 (uv z)) := by
  obtain ⟨b', o', e, hc⟩ := h (Nat.succ_pos _)
  cases e
  have hc := hc k hk
  rcases (by omega : k = 0 ∨ k = 1 ∨ k = 2) with rfl | rfl | rfl
  · exact ⟨al, Nat.le_refl _, h0, hc⟩
  · exact ⟨ah, h0, Nat.le_refl _, hc⟩
  · exact ⟨x, h1, h2, hc⟩
theorem has_in {v1 v2 n : BitVec 64} (h1 : v1.toNat ≤ n.toNat) (h2 : n.toNat ≤ v2.toNat) : decide (uv v1 ≤ uv v2 ∧ uv v1 ≤ uv n ∧ uv n ≤ uv v2) = true := by
  apply decide_eq_true
  unfold uv; omega
theorem within_in {v1 v2 al ah : BitVec 64} (h0 : v1.toNat ≤ v2.toNat) (h1 : al.toNat ≤ v1.toNat) (h2 : v2.toNat ≤ ah.toNat) : withinB (uv v1) (uv v2) (uv al) (uv ah) = true := by
  unfold withinB
  apply decide_eq_true
  unfold uv; omega

theorem meet_has {al ah bl' bh x : BitVec 64} (h1 : al.toNat ≤ ah.toNat) (h2 : bl'.toNat ≤ bh.toNat) (h3 : al.toNat ≤ x.toNat) (h4 : x.toNat ≤ ah.toNat) :
    ((meetV al ah bl' bh).2 = true ∧ decide (uv (meetV al ah bl' bh).1.1 ≤ uv (meetV al ah bl' bh).1.2 ∧ uv (meetV al ah bl' bh).1.1 ≤ uv x ∧ uv x ≤ uv (meetV al ah bl' bh).1.2) = decide (uv bl' ≤ uv bh ∧ uv bl' ≤ uv x ∧ uv x ≤ uv bh)) ∨
    ((meetV al ah bl' bh).2 = false ∧ decide (uv bl' ≤ uv bh ∧ uv bl' ≤ uv x ∧ uv x ≤ uv bh) = false) := by
  have e1 := maxB_toNat al bl'
  have e2 := minB_toNat ah bh
  unfold meetV
  by_cases h : (maxB al bl').toNat ≤ (minB ah bh).toNat
  · rw [if_pos h]
    refine .inl ⟨rfl, decide_eq_decide.2 ?_⟩
    dsimp only
    unfold uv
    omega
  · rw [if_neg h]
    refine .inr ⟨rfl, decide_eq_false ?_⟩
    unfold uv
    omega
theorem lo_is (x y : BitVec 64) : (uv (minB x y) == uv x) = true ∨ ((uv (minB x y) == uv x) = false ∧ (uv (minB x y) == uv y) = true) := by
  rw [uv_beq, uv_beq]
  by_cases h : minB x y = x
  · exact .inl (decide_eq_true h)
  · exact .inr ⟨decide_eq_false h, decide_eq_true (by unfold minB at h ⊢; split at h <;> simp_all)⟩
theorem hi_is (x y : BitVec 64) : (uv (maxB x y) == uv x) = true ∨ ((uv (maxB x y) == uv x) = false ∧ (uv (maxB x y) == uv y) = true) := by
  rw [uv_beq, uv_beq]
  by_cases h : maxB x y = x
  · exact .inl (decide_eq_true h)
  · exact .inr ⟨decide_eq_false h, decide_eq_true (by unfold maxB at h ⊢; split at h <;> simp_all)⟩
theorem sl_two {w : World} {b o : Nat} {x y z : Value} (h : Sl w (some ⟨b, o, none⟩) [x, y, z]) : w.cell? ⟨b, o + 2, none⟩ = some z := by
  obtain ⟨b', o', e, hc⟩ := h (Nat.succ_pos _)
  cases e
  exact hc 2 (Nat.lt_succ_self _)

end Go.Proofs.Ytchlokhmcadgaaa
