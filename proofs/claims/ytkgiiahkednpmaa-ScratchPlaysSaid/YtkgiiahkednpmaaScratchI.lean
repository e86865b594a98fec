/-
  The walk of the law ScratchPlays. Conditions: none.
-/
import Derived.Test.YtkgiiahkednpmaaScratchH
import Derived.Deep.RegionHeld3
namespace Go.Proofs.Ytkgiiahkednpmaa
open Go.RowKit

attribute [local go_sem] uv_nonneg uv_wrap uv_add uv_sub uv_add1 uv_sub1

set_option maxRecDepth 100000 in
set_option maxHeartbeats 4000000 in
theorem plays_walk (w : World) (script : List OpS) (A : Option Addr) (c n : Nat) (hn : n = script.length) (hm : n ≤ 17592186044416) (hr : 0 < n → ∃ b o, A = some ⟨b, o, none⟩ ∧ b < w.heap.size ∧ ∀ i, i < script.length → OpAt w b (o + i * 5) (script.getD i op0) ∧ OpOk w (script.getD i op0)) :
    Calls Try.prog 5 #[.slice A n c] w fun e w' => e = .returned (.bool true) ∧ Below w.heap.size w w' := by
  have HN := Lib.hid hn
  have HR := Lib.hid hr
  clear hn hr
  go_enter Try.func5, Try.ntmps5
  go_wp2_with fail
  refine (awake_any w).mono ?_
  rintro e wa ⟨rfl, hba⟩
  have HBA := Lib.hid hba
  clear hba
  go_wp2_with fail
  refine (new_abs wa).mono ?_
  rintro e w1 ⟨s0, rfl, hga, oa, b1⟩
  have GA := Lib.hid hga
  have OA := Lib.hid oa
  have B1 := Lib.hid b1
  clear hga oa b1
  go_wp2_with fail
  refine (new_abs w1).mono ?_
  rintro e w2 ⟨s1, rfl, hgb, ob, b2⟩
  have GB := Lib.hid hgb
  have OB := Lib.hid ob
  have B2 := Lib.hid b2
  clear hgb ob b2
  have la : s0 < w1.heap.size := Ob.lt OA.out
  have T0 : Hid (∀ w4 b0 b1 gb, b0 = w2.heap.size + 1 → b1 = w2.heap.size + 1 + 1 → gb = w2.heap.size + 1 + 1 + 1 → w4 = ((((w2.alloc (.cells #[.pointer (some ⟨s0, 0, none⟩), .pointer (some ⟨s1, 0, none⟩)] 24)).alloc (.cells #[.slice none 0 0] 48)).alloc (.cells #[.slice none 0 0] 48)).alloc (.cells #[.pointer (some ⟨b0, 0, none⟩), .pointer (some ⟨b1, 0, none⟩)] 45)) →
      Duo w w4 w2.heap.size gb s0 s1 b0 b1 (.slice none 0 0) (.slice none 0 0) [] []) := Lib.hid fun w4 b0 b1 gb e1 e2 e3 h4 => by
    have z0 := HBA.out.size
    have z1 := B1.out.size
    have z2 := B2.out.size
    have := GA.out
    have := GB.out
    have z3 : (w2.alloc (.cells #[.pointer (some ⟨s0, 0, none⟩), .pointer (some ⟨s1, 0, none⟩)] 24)).heap.size = w2.heap.size + 1 := by simp
    have z4 : ((w2.alloc (.cells #[.pointer (some ⟨s0, 0, none⟩), .pointer (some ⟨s1, 0, none⟩)] 24)).alloc (.cells #[.slice none 0 0] 48)).heap.size = w2.heap.size + 1 + 1 := by simp
    have z5 : (((w2.alloc (.cells #[.pointer (some ⟨s0, 0, none⟩), .pointer (some ⟨s1, 0, none⟩)] 24)).alloc (.cells #[.slice none 0 0] 48)).alloc (.cells #[.slice none 0 0] 48)).heap.size = w2.heap.size + 1 + 1 + 1 := by simp
    have h1 : Ob (w2.alloc (.cells #[.pointer (some ⟨s0, 0, none⟩), .pointer (some ⟨s1, 0, none⟩)] 24)) w2.heap.size 24 [.pointer (some ⟨s0, 0, none⟩), .pointer (some ⟨s1, 0, none⟩)] := Ob.fresh w2 24 [.pointer (some ⟨s0, 0, none⟩), .pointer (some ⟨s1, 0, none⟩)]
    have h2 : Ob ((w2.alloc (.cells #[.pointer (some ⟨s0, 0, none⟩), .pointer (some ⟨s1, 0, none⟩)] 24)).alloc (.cells #[.slice none 0 0] 48)) b0 48 [.slice none 0 0] := by have h := Ob.fresh (w2.alloc (.cells #[.pointer (some ⟨s0, 0, none⟩), .pointer (some ⟨s1, 0, none⟩)] 24)) 48 [.slice none 0 0]; rw [z3] at h; rw [e1]; exact h
    have h3 : Ob (((w2.alloc (.cells #[.pointer (some ⟨s0, 0, none⟩), .pointer (some ⟨s1, 0, none⟩)] 24)).alloc (.cells #[.slice none 0 0] 48)).alloc (.cells #[.slice none 0 0] 48)) b1 48 [.slice none 0 0] := by have h := Ob.fresh ((w2.alloc (.cells #[.pointer (some ⟨s0, 0, none⟩), .pointer (some ⟨s1, 0, none⟩)] 24)).alloc (.cells #[.slice none 0 0] 48)) 48 [.slice none 0 0]; rw [z4] at h; rw [e2]; exact h
    have h5 : Ob ((((w2.alloc (.cells #[.pointer (some ⟨s0, 0, none⟩), .pointer (some ⟨s1, 0, none⟩)] 24)).alloc (.cells #[.slice none 0 0] 48)).alloc (.cells #[.slice none 0 0] 48)).alloc (.cells #[.pointer (some ⟨b0, 0, none⟩), .pointer (some ⟨b1, 0, none⟩)] 45)) gb 45 [.pointer (some ⟨b0, 0, none⟩), .pointer (some ⟨b1, 0, none⟩)] := by have h := Ob.fresh (((w2.alloc (.cells #[.pointer (some ⟨s0, 0, none⟩), .pointer (some ⟨s1, 0, none⟩)] 24)).alloc (.cells #[.slice none 0 0] 48)).alloc (.cells #[.slice none 0 0] 48)) 45 [.pointer (some ⟨b0, 0, none⟩), .pointer (some ⟨b1, 0, none⟩)]; rw [z5] at h; rw [e3]; exact h
    subst h4
    exact ⟨Ob.alloc (Ob.alloc (Ob.alloc (Ob.alloc (Ob.below OA.out B2.out la) _) _) _) _, Ob.alloc (Ob.alloc (Ob.alloc (Ob.alloc OB.out _) _) _) _, ⟨(h2.alloc _).alloc _, World.ownsRow_nil _ _ _ _⟩, ⟨h3.alloc _, World.ownsRow_nil _ _ _ _⟩, ((h1.alloc _).alloc _).alloc _, h5,
      below_alloc (below_alloc (below_alloc (below_alloc ((HBA.out.trans (B1.out.mono z0)).trans (B2.out.mono (by omega))) _) _) _) _, by omega, by omega, by omega, by omega, by omega, by omega, by simp [Value.ownBlock]⟩
  clear la
  go_upto_region 5 with fail
  have T1 := Lib.hid (T0.out _ (w2.heap.size + 1) (w2.heap.size + 1 + 1) (w2.heap.size + 1 + 1 + 1) rfl rfl rfl rfl)
  generalize ((((w2.alloc (.cells #[.pointer (some ⟨s0, 0, none⟩), .pointer (some ⟨s1, 0, none⟩)] 24)).alloc (.cells #[.slice none 0 0] 48)).alloc (.cells #[.slice none 0 0] 48)).alloc (.cells #[.pointer (some ⟨w2.heap.size + 1, 0, none⟩), .pointer (some ⟨w2.heap.size + 1 + 1, 0, none⟩)] 45)) = w4 at T1 ⊢
  clear T0 OA OB B1 B2 GA GB HBA
  generalize w2.heap.size + 1 + 1 + 1 = gb at T1 ⊢
  generalize w2.heap.size + 1 + 1 = b1 at T1 ⊢
  generalize w2.heap.size + 1 = b0 at T1 ⊢
  generalize w2.heap.size = gs at T1 ⊢
  go_wp2_with fail
  go_loopw [5] (fun i wr => ∃ (k : Nat) (v0 v1 : Value) (l0 l1 : List AskV), k ≤ n ∧ k ≤ 300 ∧ i = .int .i64 k ∧ l0.length ≤ k * 16 ∧ l1.length ≤ k * 16 ∧ Duo w wr gs gb s0 s1 b0 b1 v0 v1 l0 l1) (fun i _ => n - (intOf i).toNat)
  case atStart => exact ⟨0, _, _, [], [], Nat.zero_le _, Nat.zero_le _, rfl, by simp, by simp, T1.out⟩
  case round =>
    obtain ⟨k, v0, v1, l0, l1, hk, hk3, rfl, hl0, hl1, hT⟩ := hrel
    have T := Lib.hid hT
    have HL0 := Lib.hid hl0
    have HL1 := Lib.hid hl1
    clear hT hl0 hl1 T1
    by_cases hlt : k < n ∧ k < 300
    · have hkn := hlt.1
      have hk5 := hlt.2
      clear hlt
      have g1 : (k : Int) < (n : Int) := by omega
      have g2 : (k : Int) < 300 := by omega
      obtain ⟨b, o, rfl, hbl, hop⟩ := HR.out (by omega)
      have hkl : k < script.length := by have := HN.out; omega
      have HX0 := Lib.hid (hop k hkl).2
      obtain ⟨c0, c1, c2, c3, c4, hwf⟩ := (hop k hkl).1.below hbl T.out.low
      clear hop
      generalize script.getD k op0 = x at c0 c1 c2 c3 c4 hwf HX0
      have OX : Hid (Ob (wr.alloc (.cells #[.int .i64 x.kind, .int .i64 x.on, .int .i64 x.slot, .int .u64 (uv x.n), .slice x.A x.ns.length x.cap] 51)) wr.heap.size 51 (opc x)) := Lib.hid (Ob.fresh wr 51 (opc x))
      have TX := Lib.hid (T.out.more (below_alloc (Below.refl wr.heap.size wr) (.cells #[.int .i64 x.kind, .int .i64 x.on, .int .i64 x.slot, .int .u64 (uv x.n), .slice x.A x.ns.length x.cap] 51)))
      go_upto_region 9 with fail
      generalize wr.alloc (.cells #[.int .i64 x.kind, .int .i64 x.on, .int .i64 x.slot, .int .u64 (uv x.n), .slice x.A x.ns.length x.cap] 51) = wx at OX TX ⊢
      generalize wr.heap.size = q at OX ⊢
      clear c0 c1 c2 c3 c4 T
      have f0 : wx.cell? ⟨q, 0, none⟩ = some (.int .i64 x.kind) := OX.out.cell 0
      have f1 : wx.cell? ⟨q, 1, none⟩ = some (.int .i64 x.on) := OX.out.cell 1
      have f2 : wx.cell? ⟨q, 2, none⟩ = some (.int .i64 x.slot) := OX.out.cell 2
      have f3 : wx.cell? ⟨q, 3, none⟩ = some (.int .u64 (uv x.n)) := OX.out.cell 3
      have f4 : wx.cell? ⟨q, 4, none⟩ = some (.slice x.A x.ns.length x.cap) := OX.out.cell 4
      have d0 : wx.cell? ⟨gs, 0, none⟩ = some (.pointer (some ⟨s0, 0, none⟩)) := TX.out.sA.cell 0
      have d1 : wx.cell? ⟨gs, 1, none⟩ = some (.pointer (some ⟨s1, 0, none⟩)) := TX.out.sA.cell 1
      have e0 : wx.cell? ⟨gb, 0, none⟩ = some (.pointer (some ⟨b0, 0, none⟩)) := TX.out.bA.cell 0
      have e1 : wx.cell? ⟨gb, 1, none⟩ = some (.pointer (some ⟨b1, 0, none⟩)) := TX.out.bA.cell 1
      by_cases ht : x.on.tmod 2 = 0
      · have ht' : (x.on.tmod 2 == 0) = true := by simpa using ht
        clear ht
        go_wp2_with fail
        go_region_held3 (fun w' => w'.cell? ⟨gs, 0, none⟩ = some (.pointer (some ⟨s0, 0, none⟩)) ∧ w'.cell? ⟨gb, 0, none⟩ = some (.pointer (some ⟨b0, 0, none⟩)) ∧ w'.cell? ⟨q, 0, none⟩ = some (.int .i64 x.kind) ∧ w'.cell? ⟨q, 1, none⟩ = some (.int .i64 x.on) ∧ w'.cell? ⟨q, 2, none⟩ = some (.int .i64 x.slot) ∧ w'.cell? ⟨q, 3, none⟩ = some (.int .u64 (uv x.n)) ∧ w'.cell? ⟨q, 4, none⟩ = some (.slice x.A x.ns.length x.cap)) (go_keep)
          (first
           | (go_at_call 13
              refine (plays_any w wx.drew s0 b0 v0 l0 x TX.out.drew.low TX.out.n0 TX.out.m0 (by have := HL0.out; omega) TX.out.drew.x0 TX.out.drew.k0 HX0.out).mono ?_
              rintro e w5 ⟨rfl, u, h5⟩
              have L5 := Lib.hid (TX.out.drew.step0 h5)
              have O5 : Hid (Ob w5 q 51 (opc x)) := Lib.hid (OX.out.drew.tch h5.tch fun e => e.elim (fun e => Ob.ne_ OX.out TX.out.x0 (by decide) e) fun e => e.elim (fun e => Ob.ne_ OX.out TX.out.k0.1 (by decide) e) fun e => own_typed TX.out.k0.2 OX.out (by decide) e)
              have p0 : w5.cell? ⟨gs, 0, none⟩ = some (.pointer (some ⟨s0, 0, none⟩)) := L5.out.sA.cell 0
              have p1 : w5.cell? ⟨gb, 0, none⟩ = some (.pointer (some ⟨b0, 0, none⟩)) := L5.out.bA.cell 0
              have p2 : w5.cell? ⟨q, 0, none⟩ = some (.int .i64 x.kind) := O5.out.cell 0
              have p3 : w5.cell? ⟨q, 1, none⟩ = some (.int .i64 x.on) := O5.out.cell 1
              have p4 : w5.cell? ⟨q, 2, none⟩ = some (.int .i64 x.slot) := O5.out.cell 2
              have p5 : w5.cell? ⟨q, 3, none⟩ = some (.int .u64 (uv x.n)) := O5.out.cell 3
              have p6 : w5.cell? ⟨q, 4, none⟩ = some (.slice x.A x.ns.length x.cap) := O5.out.cell 4
              clear h5))
        go_wp2_with fail
        go_roundw
        case rel => exact ⟨k + 1, _, _, _, _, by omega, by omega, by go_num, len_add l0 x k HL0.out, len_up _ k HL1.out, L5.out⟩
        case measure => exact meas n k hkn
      · have ht' : (x.on.tmod 2 == 0) = false := by simpa using ht
        clear ht
        go_wp2_with fail
        go_region_held3 (fun w' => w'.cell? ⟨gs, 1, none⟩ = some (.pointer (some ⟨s1, 0, none⟩)) ∧ w'.cell? ⟨gb, 1, none⟩ = some (.pointer (some ⟨b1, 0, none⟩)) ∧ w'.cell? ⟨q, 0, none⟩ = some (.int .i64 x.kind) ∧ w'.cell? ⟨q, 1, none⟩ = some (.int .i64 x.on) ∧ w'.cell? ⟨q, 2, none⟩ = some (.int .i64 x.slot) ∧ w'.cell? ⟨q, 3, none⟩ = some (.int .u64 (uv x.n)) ∧ w'.cell? ⟨q, 4, none⟩ = some (.slice x.A x.ns.length x.cap)) (go_keep)
          (first
           | (go_at_call 13
              refine (plays_any w wx.drew s1 b1 v1 l1 x TX.out.drew.low TX.out.n1 TX.out.m1 (by have := HL1.out; omega) TX.out.drew.x1 TX.out.drew.k1 HX0.out).mono ?_
              rintro e w5 ⟨rfl, u, h5⟩
              have L5 := Lib.hid (TX.out.drew.step1 h5)
              have O5 : Hid (Ob w5 q 51 (opc x)) := Lib.hid (OX.out.drew.tch h5.tch fun e => e.elim (fun e => Ob.ne_ OX.out TX.out.x1 (by decide) e) fun e => e.elim (fun e => Ob.ne_ OX.out TX.out.k1.1 (by decide) e) fun e => own_typed TX.out.k1.2 OX.out (by decide) e)
              have p0 : w5.cell? ⟨gs, 1, none⟩ = some (.pointer (some ⟨s1, 0, none⟩)) := L5.out.sA.cell 1
              have p1 : w5.cell? ⟨gb, 1, none⟩ = some (.pointer (some ⟨b1, 0, none⟩)) := L5.out.bA.cell 1
              have p2 : w5.cell? ⟨q, 0, none⟩ = some (.int .i64 x.kind) := O5.out.cell 0
              have p3 : w5.cell? ⟨q, 1, none⟩ = some (.int .i64 x.on) := O5.out.cell 1
              have p4 : w5.cell? ⟨q, 2, none⟩ = some (.int .i64 x.slot) := O5.out.cell 2
              have p5 : w5.cell? ⟨q, 3, none⟩ = some (.int .u64 (uv x.n)) := O5.out.cell 3
              have p6 : w5.cell? ⟨q, 4, none⟩ = some (.slice x.A x.ns.length x.cap) := O5.out.cell 4
              clear h5))
        go_wp2_with fail
        go_roundw
        case rel => exact ⟨k + 1, _, _, _, _, by omega, by omega, by go_num, len_up _ k HL0.out, len_add l1 x k HL1.out, L5.out⟩
        case measure => exact meas n k hkn
    · have HN0 : Hid (l0.length ≤ 4800) := Lib.hid (by have := HL0.out; omega)
      have HN1 : Hid (l1.length ≤ 4800) := Lib.hid (by have := HL1.out; omega)
      have hx : ¬ (k : Int) < (n : Int) ∨ ((k : Int) < (n : Int) ∧ ¬ (k : Int) < 300) := by omega
      clear hlt HR HL0 HL1
      rcases hx with hx | ⟨hx, hy⟩
      all_goals
        go_wp2_with fail
        go_loopw [8] (fun i wr => ∃ (m : Nat) (u0 u1 : Value), m ≤ 18 ∧ i = .int .i64 ((m : Int) - 1) ∧ Duo w wr gs gb s0 s1 b0 b1 u0 u1 l0 l1) (fun i _ => (17 - intOf i).toNat)
        case atStart => exact ⟨0, v0, v1, by omega, rfl, T.out⟩
        case round =>
          obtain ⟨m, u0, u1, hm18, rfl, hT2⟩ := hrel
          have TM := Lib.hid hT2
          clear hT2 T
          by_cases hlm : m < 18
          · have g1 : (m : Int) - 1 < 17 := by omega
            go_wp2_with fail
            go_loopw [9] (fun i wr => ∃ (j : Nat) (u0 u1 : Value), j ≤ 2 ∧ i = .int .i64 j ∧ Duo w wr gs gb s0 s1 b0 b1 u0 u1 l0 l1) (fun i _ => 2 - (intOf i).toNat)
            case atStart => exact ⟨0, u0, u1, by omega, rfl, TM.out⟩
            case round =>
              clear TM
              obtain ⟨j, u0, u1, hj, rfl, hTQ⟩ := hrel
              have TQ := Lib.hid hTQ
              clear hTQ
              have d0 : wr.cell? ⟨gs, 0, none⟩ = some (.pointer (some ⟨s0, 0, none⟩)) := TQ.out.sA.cell 0
              have d1 : wr.cell? ⟨gs, 1, none⟩ = some (.pointer (some ⟨s1, 0, none⟩)) := TQ.out.sA.cell 1
              have e0 : wr.cell? ⟨gb, 0, none⟩ = some (.pointer (some ⟨b0, 0, none⟩)) := TQ.out.bA.cell 0
              have e1 : wr.cell? ⟨gb, 1, none⟩ = some (.pointer (some ⟨b1, 0, none⟩)) := TQ.out.bA.cell 1
              by_cases hj2 : j < 2
              · by_cases hj0 : j = 0
                · subst hj0
                  go_wp2_with fail
                  go_region_held3 (fun w' => w'.cell? ⟨gs, 0, none⟩ = some (.pointer (some ⟨s0, 0, none⟩)) ∧ w'.cell? ⟨gb, 0, none⟩ = some (.pointer (some ⟨b0, 0, none⟩))) (go_keep)
                    (first
                     | (go_at_call 13
                        have hL5 := L5.out.low
                        refine (plays_lit 4 (.inr rfl) ((m : Int) - 1) w w5 s0 b0 y5 l0 hL5 TQ.out.n0 TQ.out.m0 (by have := HN0.out; omega) L5.out.x0 L5.out.k0).mono ?_
                        rintro e w6 ⟨rfl, y6, h6⟩
                        have L6 := Lib.hid (L5.out.step0 h6)
                        have r0 : w6.cell? ⟨gs, 0, none⟩ = some (.pointer (some ⟨s0, 0, none⟩)) := L6.out.sA.cell 0
                        have r1 : w6.cell? ⟨gb, 0, none⟩ = some (.pointer (some ⟨b0, 0, none⟩)) := L6.out.bA.cell 0
                        clear h6 hL5)
                     | (go_at_call 13
                        refine (plays_lit 0 (.inl rfl) ((m : Int) - 1) w wr.drew s0 b0 u0 l0 TQ.out.drew.low TQ.out.n0 TQ.out.m0 (by have := HN0.out; omega) TQ.out.drew.x0 TQ.out.drew.k0).mono ?_
                        rintro e w5 ⟨rfl, y5, h5⟩
                        have L5 := Lib.hid (TQ.out.drew.step0 h5)
                        have p0 : w5.cell? ⟨gs, 0, none⟩ = some (.pointer (some ⟨s0, 0, none⟩)) := L5.out.sA.cell 0
                        have p1 : w5.cell? ⟨gb, 0, none⟩ = some (.pointer (some ⟨b0, 0, none⟩)) := L5.out.bA.cell 0
                        clear h5))
                  go_wp2_with fail
                  go_roundw
                  case rel => exact ⟨0 + 1, _, _, by omega, by go_num, L6.out⟩
                  case measure => simp [intOf]
                · obtain rfl : j = 1 := by omega
                  go_wp2_with fail
                  go_region_held3 (fun w' => w'.cell? ⟨gs, 1, none⟩ = some (.pointer (some ⟨s1, 0, none⟩)) ∧ w'.cell? ⟨gb, 1, none⟩ = some (.pointer (some ⟨b1, 0, none⟩))) (go_keep)
                    (first
                     | (go_at_call 13
                        have hL5 := L5.out.low
                        refine (plays_lit 4 (.inr rfl) ((m : Int) - 1) w w5 s1 b1 y5 l1 hL5 TQ.out.n1 TQ.out.m1 (by have := HN1.out; omega) L5.out.x1 L5.out.k1).mono ?_
                        rintro e w6 ⟨rfl, y6, h6⟩
                        have L6 := Lib.hid (L5.out.step1 h6)
                        have r0 : w6.cell? ⟨gs, 1, none⟩ = some (.pointer (some ⟨s1, 0, none⟩)) := L6.out.sA.cell 1
                        have r1 : w6.cell? ⟨gb, 1, none⟩ = some (.pointer (some ⟨b1, 0, none⟩)) := L6.out.bA.cell 1
                        clear h6 hL5)
                     | (go_at_call 13
                        refine (plays_lit 0 (.inl rfl) ((m : Int) - 1) w wr.drew s1 b1 u1 l1 TQ.out.drew.low TQ.out.n1 TQ.out.m1 (by have := HN1.out; omega) TQ.out.drew.x1 TQ.out.drew.k1).mono ?_
                        rintro e w5 ⟨rfl, y5, h5⟩
                        have L5 := Lib.hid (TQ.out.drew.step1 h5)
                        have p0 : w5.cell? ⟨gs, 1, none⟩ = some (.pointer (some ⟨s1, 0, none⟩)) := L5.out.sA.cell 1
                        have p1 : w5.cell? ⟨gb, 1, none⟩ = some (.pointer (some ⟨b1, 0, none⟩)) := L5.out.bA.cell 1
                        clear h5))
                  go_wp2_with fail
                  go_roundw
                  case rel => exact ⟨1 + 1, _, _, by omega, by go_num, L6.out⟩
                  case measure => simp [intOf]
              · have g2 : ¬ (j : Int) < 2 := by omega
                go_wp2_with fail
                go_roundw
                case rel => exact ⟨m + 1, u0, u1, by omega, by go_num, TQ.out⟩
                case measure => simp [intOf]; omega
          · obtain rfl : m = 18 := by omega
            have d0 : wr.cell? ⟨gs, 0, none⟩ = some (.pointer (some ⟨s0, 0, none⟩)) := TM.out.sA.cell 0
            have d1 : wr.cell? ⟨gs, 1, none⟩ = some (.pointer (some ⟨s1, 0, none⟩)) := TM.out.sA.cell 1
            have e0 : wr.cell? ⟨gb, 0, none⟩ = some (.pointer (some ⟨b0, 0, none⟩)) := TM.out.bA.cell 0
            have e1 : wr.cell? ⟨gb, 1, none⟩ = some (.pointer (some ⟨b1, 0, none⟩)) := TM.out.bA.cell 1
            have g2 : ¬ ((18 : Nat) : Int) - 1 < 17 := by omega
            have hmk := make16
            go_wp2_with fail
            go_region_held3 (fun w' => w'.cell? ⟨gs, 0, none⟩ = some (.pointer (some ⟨s0, 0, none⟩)) ∧ w'.cell? ⟨gs, 1, none⟩ = some (.pointer (some ⟨s1, 0, none⟩)) ∧ w'.cell? ⟨gb, 0, none⟩ = some (.pointer (some ⟨b0, 0, none⟩)) ∧ w'.cell? ⟨gb, 1, none⟩ = some (.pointer (some ⟨b1, 0, none⟩))) (go_keep)
              (fail)
            have OBT : Hid (Ob (wr.alloc (.cells #[.pointer (some ⟨b0, 0, none⟩), .pointer none, .pointer (some ⟨b1, 0, none⟩), .pointer (some ⟨b0, 0, none⟩)] 45)).drew wr.heap.size 45 [.pointer (some ⟨b0, 0, none⟩), .pointer none, .pointer (some ⟨b1, 0, none⟩), .pointer (some ⟨b0, 0, none⟩)]) := Lib.hid (Ob.fresh wr 45 [.pointer (some ⟨b0, 0, none⟩), .pointer none, .pointer (some ⟨b1, 0, none⟩), .pointer (some ⟨b0, 0, none⟩)])
            have TB : Hid (Duo w (wr.alloc (.cells #[.pointer (some ⟨b0, 0, none⟩), .pointer none, .pointer (some ⟨b1, 0, none⟩), .pointer (some ⟨b0, 0, none⟩)] 45)).drew gs gb s0 s1 b0 b1 u0 u1 l0 l1) := Lib.hid (TM.out.more (below_drewN (below_alloc (Below.refl wr.heap.size wr) _) 1))
            generalize (wr.alloc (.cells #[.pointer (some ⟨b0, 0, none⟩), .pointer none, .pointer (some ⟨b1, 0, none⟩), .pointer (some ⟨b0, 0, none⟩)] 45)).drew = wb at OBT TB ⊢
            generalize wr.heap.size = qb at OBT ⊢
            clear d0 d1 e0 e1 TM
            have d0 : wb.cell? ⟨gs, 0, none⟩ = some (.pointer (some ⟨s0, 0, none⟩)) := TB.out.sA.cell 0
            have d1 : wb.cell? ⟨gs, 1, none⟩ = some (.pointer (some ⟨s1, 0, none⟩)) := TB.out.sA.cell 1
            have HTOT := Lib.hid (tot_btot l0 l1 s0 s1 b0 b1 u0 u1)
            go_wp2_with fail
            go_region_held3 (fun w' => w'.cell? ⟨gs, 0, none⟩ = some (.pointer (some ⟨s0, 0, none⟩)) ∧ w'.cell? ⟨gs, 1, none⟩ = some (.pointer (some ⟨s1, 0, none⟩))) (go_keep)
              (first
               | (go_at_call_of 10 (Value.slice none 0 0)
                  refine (totals_none none 0 _).mono ?_
                  rintro e w10 ⟨r10, rfl, hr10, b10⟩
                  obtain ⟨g10, cap10, rest10, rfl, _, o10, _, _, _, _⟩ := own_ob hr10 (by omega)
                  have O10 : Hid (Ob w10 g10 27 ([] ++ (arr 16 zz ++ rest10))) := Lib.hid o10
                  have B10 := Lib.hid b10
                  have H10 : Hid (Below w.heap.size w w10) := Lib.hid (by
                    first
                    | exact (below_drewN L6.out.low d7).trans (b10.mono L6.out.low.size)
                    | exact (below_alloc (below_drewN L6.out.low d7) _).trans (b10.mono (below_alloc (below_drewN L6.out.low d7) _).size))
                  have S10 : Hid (Ob w10 gs 24 [.pointer (some ⟨s0, 0, none⟩), .pointer (some ⟨s1, 0, none⟩)]) := Lib.hid (by
                    first
                    | exact (L6.out.sA.drewN d7).below b10 L6.out.sA.lt
                    | exact ((L6.out.sA.drewN d7).alloc _).below b10 ((L6.out.sA.drewN d7).alloc _).lt)
                  have t0 : w10.cell? ⟨gs, 0, none⟩ = some (.pointer (some ⟨s0, 0, none⟩)) := S10.out.cell 0
                  have t1 : w10.cell? ⟨gs, 1, none⟩ = some (.pointer (some ⟨s1, 0, none⟩)) := S10.out.cell 1
                  clear hr10 b10 o10)
               | (go_at_call_of 11 (Value.slice (some ⟨w10.heap.size, 0, none⟩) 16 16)
                  refine (numbers_ob zz g10 w10.heap.size _ _ cap10 16 rest10 [] _ (O10.out.alloc _) (ob_pad (Ob.fresh w10 27 (arr 16 zz)))).mono ?_
                  rintro e w11 ⟨rfl, d11, rfl⟩)
               | (go_at_call_of 11 (Value.slice (some ⟨w6.heap.size, 0, none⟩) 16 16)
                  have hB := B10.out
                  refine (numbers_ob zz g10 w6.heap.size _ _ cap10 16 rest10 [] w10 O10.out (ob_pad ((Ob.fresh (w6.drewN d7) 27 (arr 16 zz)).below hB (Ob.fresh (w6.drewN d7) 27 (arr 16 zz)).lt))).mono ?_
                  rintro e w11 ⟨rfl, d11, rfl⟩
                  clear hB)
               | (go_at_call 10
                  refine (totals_new [some (s0, wsOf l0, ksOf l0), none, some (s1, wsOf l1, ksOf l1), some (s0, wsOf l0, ksOf l0)] wb.drew (fun y hy => by
                    rcases List.mem_cons.1 hy with rfl | hy
                    · exact TB.out.drew.x0
                    · rcases List.mem_cons.1 hy with rfl | hy
                      · trivial
                      · rcases List.mem_cons.1 hy with rfl | hy
                        · exact TB.out.drew.x1
                        · rcases List.mem_cons.1 hy with rfl | hy
                          · exact TB.out.drew.x0
                          · cases hy) _ (by rfl) 4 (by rfl) (by omega)).mono ?_
                  rintro e w5 ⟨r5, rfl, hr5, b5⟩
                  obtain ⟨gr, capr, restr, rfl, _, o5, _, _, _, _⟩ := own_ob hr5 (by omega)
                  rw [HTOT.out] at o5
                  have O5 : Hid (Ob w5 gr 27 ([] ++ (arr 16 (btot [some (b0, u0, l0), none, some (b1, u1, l1), some (b0, u0, l0)]) ++ restr))) := Lib.hid o5
                  have L5 := Lib.hid (TB.out.drew.more b5)
                  have OB5 := Lib.hid (OBT.out.drew.below b5 OBT.out.lt)
                  have p0 : w5.cell? ⟨gs, 0, none⟩ = some (.pointer (some ⟨s0, 0, none⟩)) := L5.out.sA.cell 0
                  have p1 : w5.cell? ⟨gs, 1, none⟩ = some (.pointer (some ⟨s1, 0, none⟩)) := L5.out.sA.cell 1
                  clear hr5 o5 b5)
               | (go_at_call 14
                  refine (btotals_some [some (b0, u0, l0), none, some (b1, u1, l1), some (b0, u0, l0)] w.heap.size qb 0 4 4 rfl (by omega) w5 (fun j hj => by
                    rw [Nat.zero_add]
                    have hj4 : j < 4 := hj
                    match j, hj4 with
                    | 0, _ => exact OB5.out.cell 0
                    | 1, _ => exact OB5.out.cell 1
                    | 2, _ => exact OB5.out.cell 2
                    | 3, _ => exact OB5.out.cell 3) (fun y hy => by
                    rcases List.mem_cons.1 hy with rfl | hy
                    · exact ⟨L5.out.k0, by have := HN0.out; show l0.length ≤ _; omega⟩
                    · rcases List.mem_cons.1 hy with rfl | hy
                      · trivial
                      · rcases List.mem_cons.1 hy with rfl | hy
                        · exact ⟨L5.out.k1, by have := HN1.out; show l1.length ≤ _; omega⟩
                        · rcases List.mem_cons.1 hy with rfl | hy
                          · exact ⟨L5.out.k0, by have := HN0.out; show l0.length ≤ _; omega⟩
                          · cases hy)).mono ?_
                  rintro e w6 ⟨rfl, o6, b6⟩
                  have L6 := Lib.hid (L5.out.more b6)
                  have O6 := Lib.hid (O5.out.below b6 O5.out.lt)
                  have R6 := Lib.hid o6
                  have r0 : w6.cell? ⟨gs, 0, none⟩ = some (.pointer (some ⟨s0, 0, none⟩)) := L6.out.sA.cell 0
                  have r1 : w6.cell? ⟨gs, 1, none⟩ = some (.pointer (some ⟨s1, 0, none⟩)) := L6.out.sA.cell 1
                  clear o6 b6)
               | (go_at_call 11
                  refine (numbers_ob (btot [some (b0, u0, l0), none, some (b1, u1, l1), some (b0, u0, l0)]) gr w5.heap.size _ _ capr 16 restr [] w6 O6.out R6.out).mono ?_
                  rintro e w7 ⟨rfl, d7, rfl⟩))
            all_goals try go_wp2_with fail
            all_goals (refine bodyPost_ret (v := .bool true) (by first | rfl | kernel_rfl) (by first | rfl | kernel_rfl) ?_)
            all_goals first
              | exact ⟨rfl, below_drewN (below_alloc H10.out _) _⟩
              | exact ⟨rfl, below_drewN H10.out _⟩

/-- the law's walk, with the argument as it came in -/
theorem plays_law (w : World) (l : List OpS) (v : Value) (hr : RdOps w v l) :
    Calls Try.prog 5 #[v] w fun e w' => e = .returned (.bool true) ∧ Below w.heap.size w w' := by
  obtain ⟨⟨A, c, rfl, hc, hb⟩, hm⟩ := hr
  exact plays_walk w l A c l.length rfl (by omega) hb

end Go.Proofs.Ytkgiiahkednpmaa
