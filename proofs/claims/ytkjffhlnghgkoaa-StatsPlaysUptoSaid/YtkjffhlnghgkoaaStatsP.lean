/-
  tell of the laws StatsPlays and StatsMerges. Conditions: none.
-/
import Derived.Test.YtkjffhlnghgkoaaStatsO
namespace Go.Proofs.Ytkjffhlnghgkoaa
open Go.RowKit

attribute [local go_sem] uv_nonneg uv_wrap uv_add uv_sub uv_add1 uv_sub1

/-- one call of a script, as it came in -/
structure OpV where
  kind : Int
  on : Int
  hook : Int
  s : BitVec 64
  c : BitVec 64
  r : BitVec 64
  hs : List Int
  A : Option Addr
  cap : Nat
def opVal (o : OpV) : Value := .agg #[.int .i64 o.kind, .int .i64 o.on, .int .i64 o.hook, .int .u64 (uv o.s), .int .u64 (uv o.c), .int .u64 (uv o.r), .slice o.A o.hs.length o.cap]
def AllHooks (hs : List Int) : Prop := ∀ k, k < hs.length → Hook (hs.getD k 0)
open Classical in
/-- what a call does to the twenty numbers -/
noncomputable def eff (o : OpV) (H : Nat → BitVec 64) : Nat → BitVec 64 :=
  if o.kind = 0 then (if Hook o.hook then addAt H o.hook.toNat (oneRun o.s o.c o.r) else H) else (if AllHooks o.hs then missed H o.hs else H)
open Classical in
/-- what a call answers -/
noncomputable def code (o : OpV) : Int := if o.kind = 0 then (if Hook o.hook then 0 else 2) else (if AllHooks o.hs then 0 else 2)
theorem int_info : (Try.prog.info? 3).map (fun i => (i.zero, i.size, i.bytes)) = some (some (.int .i64 0), 1, 8) := by kernel_rfl
theorem intsV_one (ns : List Int) : ∀ u ∈ intsV ns, u.oneCell' = true := by
  intro u hu
  simp only [intsV, List.mem_map] at hu
  obtain ⟨n, _, rfl⟩ := hu
  rfl
theorem first_bad {hs : List Int} (h : ¬ AllHooks hs) : ∃ m, m < hs.length ∧ ¬ Hook (hs.getD m 0) ∧ ∀ k, k < m → Hook (hs.getD k 0) := by
  classical
  unfold AllHooks at h
  have h' : ∃ m, m < hs.length ∧ ¬ Hook (hs.getD m 0) := by
    obtain ⟨m, hm⟩ := Classical.not_forall.1 h
    exact ⟨m, (Classical.not_imp.1 hm).1, (Classical.not_imp.1 hm).2⟩
  obtain ⟨M, hM⟩ := h'
  induction M using Nat.strongRecOn with
  | ind M ih =>
    by_cases hk : ∀ k, k < M → Hook (hs.getD k 0)
    · exact ⟨M, hM.1, hM.2, hk⟩
    · obtain ⟨k, hk⟩ := Classical.not_forall.1 hk
      have h1 := (Classical.not_imp.1 hk).1
      exact ih k h1 ⟨by omega, (Classical.not_imp.1 hk).2⟩

set_option maxRecDepth 100000 in
set_option maxHeartbeats 2000000 in
theorem tell_run (g : Nat) (H : Nat → BitVec 64) (o : OpV) (hk : o.kind = 0) (w : World) (hob : StatAt w g H) :
    Calls Try.prog 12 #[.pointer (some ⟨g, 0, none⟩), opVal o] w fun e w' => e = .returned (.int .i64 (code o)) ∧ StatAt w' g (eff o H) ∧ Only w w' g := by
  obtain ⟨kind, on, hook, s, c, r, hs, A, cap⟩ := o
  obtain rfl : kind = 0 := hk
  unfold opVal
  have HO := Lib.hid (hob.alloc (.cells #[.int .i64 0, .int .i64 on, .int .i64 hook, .int .u64 (uv s), .int .u64 (uv c), .int .u64 (uv r), .slice A hs.length cap] 37))
  have HW := Lib.hid ((Only.refl w g).alloc (.cells #[.int .i64 0, .int .i64 on, .int .i64 hook, .int .u64 (uv s), .int .u64 (uv c), .int .u64 (uv r), .slice A hs.length cap] 37))
  clear hob
  by_cases hh : Hook hook
  · have he : eff ⟨0, on, hook, s, c, r, hs, A, cap⟩ H = addAt H hook.toNat (oneRun s c r) := by unfold eff; rw [if_pos rfl, if_pos hh]
    have hc : code ⟨0, on, hook, s, c, r, hs, A, cap⟩ = 0 := by unfold code; rw [if_pos rfl, if_pos hh]
    rw [he, hc]
    clear he hc
    obtain ⟨y, rfl⟩ : ∃ y : Nat, hook = (y : Int) := ⟨hook.toNat, by have := hh.1; omega⟩
    have hy : y < 4 := by have := hh.2; omega
    clear hh
    rw [Int.toNat_natCast]
    have HY := Lib.hid hy
    clear hy
    go_enter Try.func12, Try.ntmps12
    go_wp2_with fail
    refine (ran_in g y H s c r HY.out _ HO.out).mono ?_
    rintro e w' ⟨rfl, h1, h2⟩
    have H1 := Lib.hid h1
    have H2 := Lib.hid h2
    clear h1 h2
    go_wp2_with fail
    go_ret
    exact ⟨rfl, H1.out, HW.out.trans H2.out⟩
  · have he : eff ⟨0, on, hook, s, c, r, hs, A, cap⟩ H = H := by unfold eff; rw [if_pos rfl, if_neg hh]
    have hc : code ⟨0, on, hook, s, c, r, hs, A, cap⟩ = 2 := by unfold code; rw [if_pos rfl, if_neg hh]
    rw [he, hc]
    clear he hc
    have HH := Lib.hid hh
    clear hh
    go_enter Try.func12, Try.ntmps12
    go_wp2_with fail
    refine (ran_out _ _ _ _ hook HH.out _).mono ?_
    rintro e w' ⟨rfl, rfl⟩
    go_wp2_with fail
    go_ret
    exact ⟨rfl, HO.out, HW.out⟩

theorem own_empty_at {w0 w : World} (hB : Below w0.heap.size w0 w) (e : TypeId) (size q : Nat) (hq : q = w.heap.size) : (w.alloc (.cells #[] e)).ownsRow w0.heap.size e size (.slice (some ⟨q, 0, none⟩) 0 0) 0 [] := by
  subst hq
  exact own_empty hB e size

open Classical in
set_option maxRecDepth 100000 in
set_option maxHeartbeats 2000000 in
theorem tell_miss (g : Nat) (H : Nat → BitVec 64) (o : OpV) (hk : o.kind ≠ 0) (w : World) (hob : StatAt w g H) (hm : o.hs.length * 8 ≤ 140737488351232) (hsl : Sl w o.A (intsV o.hs)) :
    Calls Try.prog 12 #[.pointer (some ⟨g, 0, none⟩), opVal o] w fun e w' => e = .returned (.int .i64 (code o)) ∧ StatAt w' g (eff o H) ∧ Only w w' g := by
  obtain ⟨i0, hi0, hz0, hz1, hz2⟩ := info_parts int_info
  obtain ⟨kind, on, hook, s, c, r, hs, A, cap⟩ := o
  have hk : kind ≠ 0 := hk
  have hm : hs.length * 8 ≤ 140737488351232 := hm
  have hsl : Sl w A (intsV hs) := hsl
  unfold opVal
  obtain ⟨n, hn⟩ : ∃ n, hs.length = n := ⟨_, rfl⟩
  have HL : Hid ((intsV hs).length = n * 1) := Lib.hid (by rw [intsV_length, hn, Nat.mul_one])
  obtain ⟨E, hE⟩ : ∃ E, eff ⟨kind, on, hook, s, c, r, hs, A, cap⟩ H = E := ⟨_, rfl⟩
  have HE : Hid (E = if AllHooks hs then missed H hs else H) := Lib.hid (by rw [← hE]; unfold eff; rw [if_neg hk])
  obtain ⟨C, hC⟩ : ∃ C, code ⟨kind, on, hook, s, c, r, hs, A, cap⟩ = C := ⟨_, rfl⟩
  have HC : Hid (C = if AllHooks hs then 0 else 2) := Lib.hid (by rw [← hC]; unfold code; rw [if_neg hk])
  rw [hE, hC]
  show Calls _ _ #[_, .agg #[.int .i64 kind, .int .i64 on, .int .i64 hook, .int .u64 (uv s), .int .u64 (uv c), .int .u64 (uv r), .slice A hs.length cap]] w _
  rw [hn] at hm ⊢
  have HN := Lib.hid hn
  have hk0 : (kind == 0) = false := by simpa using hk
  have hgl : g < w.heap.size := hob.lt
  have HO := Lib.hid hob
  have HS := Lib.hid (hsl.below (below_alloc (Below.refl w.heap.size w) (.cells #[.int .i64 kind, .int .i64 on, .int .i64 hook, .int .u64 (uv s), .int .u64 (uv c), .int .u64 (uv r), .slice A n cap] 37)))
  have HW := Lib.hid (below_alloc (Below.refl w.heap.size w) (.cells #[.int .i64 kind, .int .i64 on, .int .i64 hook, .int .u64 (uv s), .int .u64 (uv c), .int .u64 (uv r), .slice A n cap] 37))
  clear hob hsl hk hn hE hC
  go_enter Try.func12, Try.ntmps12
  go_wp2_with
    (at_builtin
     refine wpList_append_in _ rfl (.tmp 19) (.tmp 21) _ rfl (below_alloc HW.out _) 3 i0 _ 1 8 Try.underlying35 hi0 hz0 hz1 hz2 rfl (by omega) _ 0 [] rfl (own_empty_at HW.out _ _ (w.heap.size + 1) (by simp [go_sem]))
       A n cap (intsV hs) rfl HL.out (HS.out.below (below_alloc (Below.refl _ _) _)) (intsV_one hs) (by omega) (by omega) ?_
     intro v2 w2 hown hb2 g1 g2
     clear g1 g2
     have hex := own_form hown
     obtain ⟨A2, c2, hv2, hnc2, hcm2, hsl2, hA2⟩ := hex
     have HB2 := Lib.hid hb2
     have HS2 : Hid (Sl w2 A2 (intsV hs)) := Lib.hid hsl2
     have HA2 : Hid (∀ p, A2 = some p → p.block ≠ g) := Lib.hid fun p hp => by have := (hA2 p hp).1; omega
     have HO2 : Hid (StatAt w2 g H) := Lib.hid (Ob.below HO.out hb2 hgl)
     rw [hv2, Nat.zero_add]
     clear hown hv2 hsl2 hA2 hb2)
  by_cases hall : AllHooks hs
  · refine (missed_in g H hs A2 c2 n HN.out.symm hall (by omega) _ HO2.out HS2.out HA2.out).mono ?_
    rintro e w' ⟨rfl, h1, h2⟩
    have H1 := Lib.hid h1
    have H2 := Lib.hid h2
    clear h1 h2
    go_wp2_with fail
    go_ret
    exact ⟨by rw [HC.out, if_pos hall]; rfl, by rw [HE.out, if_pos hall]; exact H1.out, (Only.of_below HB2.out g).trans H2.out⟩
  · obtain ⟨m, hm1, hm2, hm3⟩ := first_bad hall
    refine (missed_out _ hs A2 c2 n m HN.out.symm hm1 hm3 hm2 (by omega) _ HS2.out).mono ?_
    rintro e w' ⟨rfl, rfl⟩
    go_wp2_with fail
    go_ret
    exact ⟨by rw [HC.out, if_neg hall]; rfl, by rw [HE.out, if_neg hall]; exact HO2.out, Only.of_below HB2.out g⟩

end Go.Proofs.Ytkjffhlnghgkoaa
