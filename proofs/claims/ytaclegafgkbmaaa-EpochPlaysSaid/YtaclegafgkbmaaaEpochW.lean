/-
  Layer 17: the clock's functions that ask, Advance, Enter, New. Conditions: those of each theorem.
-/
import Derived.Test.YtaclegafgkbmaaaRows
import Derived.Test.YtaclegafgkbmaaaGrow
import Derived.Test.YtaclegafgkbmaaaOpenS
import Derived.BigRegion
import Derived.BigQuiet
import Derived.Deep.RegionWith
import Derived.Deep.DeepCutAuto
namespace Go.Proofs.Ytaclegafgkbmaaa
open Go.RowKit

/-- numbers as cells -/
def iarr (l : List Int) : List Value := l.map fun n => .int .i64 n
theorem iarr_get (l : List Int) (k : Nat) (h : k < l.length) : (iarr l)[k]? = some (.int .i64 (l.getD k 0)) := by
  simp [iarr, h]
theorem iarr_set (l : List Int) (k : Nat) (x : Int) : (iarr l).set k (.int .i64 x) = iarr (l.set k x) := by simp [iarr, List.map_set]
/-- a clock: its block, its workers' block, now, in which epoch each worker is -/
def ClockAt (w : World) (g gi : Nat) (now : Int) (ins : List Int) : Prop :=
  Ob w g 50 [.int .i64 now, .slice (some ⟨gi, 0, none⟩) ins.length ins.length] ∧ Ob w gi 3 (iarr ins)
theorem ClockAt.below {w w' : World} {g gi : Nat} {now : Int} {ins : List Int} (h : ClockAt w g gi now ins) (hb : Below w.heap.size w w') : ClockAt w' g gi now ins := ⟨h.1.below hb h.1.lt, h.2.below hb h.2.lt⟩
theorem ClockAt.drewN {w : World} {g gi : Nat} {now : Int} {ins : List Int} (h : ClockAt w g gi now ins) (d : Nat) : ClockAt (w.drewN d) g gi now ins := h.below (below_drewN (Below.refl _ _) d)
def Kn (ins : List Int) (h : Int) : Prop := 0 ≤ h ∧ h < ins.length
theorem kn_cases (ins : List Int) (h : Int) : (∃ y : Nat, h = (y : Int) ∧ y < ins.length) ∨ ¬ Kn ins h := by
  by_cases hk : Kn ins h
  · exact .inl ⟨h.toNat, by have := hk.1; omega, by have := hk.1; have := hk.2; omega⟩
  · exact .inr hk
theorem ClockAt.at_ {w : World} {g gi : Nat} {now : Int} {ins : List Int} (h : ClockAt w g gi now ins) (k : Nat) (hk : k < ins.length) : w.cell? ⟨gi, k, none⟩ = some (.int .i64 (ins.getD k 0)) := by rw [h.2.cell, iarr_get _ _ hk]

set_option maxHeartbeats 800000 in
theorem known_in (w : World) (g gi : Nat) (now : Int) (ins : List Int) (y : Nat) (hy : y < ins.length) (hm : ins.length ≤ 4) (hc : ClockAt w g gi now ins) :
    Calls Try.prog 21 #[.pointer (some ⟨g, 0, none⟩), .int .i64 y] w fun e w' => e = .returned (.bool true) ∧ w = w' := by
  have f1 : w.cell? ⟨g, 1, none⟩ = some (.slice (some ⟨gi, 0, none⟩) ins.length ins.length) := hc.1.cell 1
  clear hc
  generalize ins.length = n at f1 hy hm
  have g1 : (y : Int) < (n : Int) := by omega
  go_enter Try.func21, Try.ntmps21
  go_wp2_with fail
  go_ret
  exact ⟨rfl, rfl⟩
set_option maxHeartbeats 800000 in
theorem known_out (w : World) (g gi : Nat) (now : Int) (ins : List Int) (h : Int) (hh : ¬ Kn ins h) (hm : ins.length ≤ 4) (hc : ClockAt w g gi now ins) :
    Calls Try.prog 21 #[.pointer (some ⟨g, 0, none⟩), .int .i64 h] w fun e w' => e = .returned (.bool false) ∧ w = w' := by
  have f1 : w.cell? ⟨g, 1, none⟩ = some (.slice (some ⟨gi, 0, none⟩) ins.length ins.length) := hc.1.cell 1
  clear hc
  unfold Kn at hh
  generalize ins.length = n at f1 hh hm
  by_cases h0 : 0 ≤ h
  · have g1 : ¬ h < (n : Int) := by omega
    clear hh
    go_enter Try.func21, Try.ntmps21
    go_wp2_with fail
    go_ret
    exact ⟨rfl, rfl⟩
  · have g1 : h < 0 := by omega
    clear hh
    go_enter Try.func21, Try.ntmps21
    go_wp2_with fail
    go_ret
    exact ⟨rfl, rfl⟩

/-- what In tells of a worker -/
def inV (ins : List Int) (h : Int) : Int := if 0 ≤ h ∧ h < ins.length then ins.getD h.toNat 0 else 0
theorem inV_nat (ins : List Int) {y : Nat} (hy : y < ins.length) : inV ins (y : Int) = ins.getD y 0 := by unfold inV; rw [if_pos (by omega), Int.toNat_natCast]
theorem inV_out (ins : List Int) {h : Int} (hh : ¬ Kn ins h) : inV ins h = 0 := by unfold inV; rw [if_neg (show ¬ (0 ≤ h ∧ h < (ins.length : Int)) from hh)]

set_option maxRecDepth 100000 in
set_option maxHeartbeats 2000000 in
theorem in_any (w : World) (g gi : Nat) (now : Int) (ins : List Int) (h : Int) (hm : ins.length ≤ 4) (hc : ClockAt w g gi now ins) :
    Calls Try.prog 9 #[.pointer (some ⟨g, 0, none⟩), .int .i64 h] w fun e w' => e = .returned (.tuple #[.int .i64 (inV ins h), .bool (inV ins h != 0)]) ∧ ∃ d, w' = w.drewN d := by
  rcases kn_cases ins h with ⟨y, rfl, hy⟩ | ho
  · rw [inV_nat ins hy]
    have HC := Lib.hid hc
    have HY := Lib.hid hy
    have HM := Lib.hid hm
    have f1 : w.cell? ⟨g, 1, none⟩ = some (.slice (some ⟨gi, 0, none⟩) ins.length ins.length) := hc.1.cell 1
    have f2 := hc.at_ y hy
    clear hc
    obtain ⟨n, hn⟩ : ∃ n, ins.length = n := ⟨_, rfl⟩
    rw [hn] at f1 hy hm
    clear hn
    have g1 : (y : Int) < (n : Int) := by omega
    obtain ⟨x, hx⟩ : ∃ x, ins.getD y 0 = x := ⟨_, rfl⟩
    rw [hx] at f2 ⊢
    clear hx
    go_enter Try.func9, Try.ntmps9
    go_wp2_with fail
    refine (known_in w g gi now ins y HY.out HM.out HC.out).mono ?_
    rintro e w' ⟨rfl, rfl⟩
    go_wp2_with fail
    go_quiet (fail)
    go_wp2_with fail
    go_ret2
    exact ⟨rfl, _, rfl⟩
  · rw [inV_out ins ho]
    have HC := Lib.hid hc
    have HO := Lib.hid ho
    clear hc ho
    go_enter Try.func9, Try.ntmps9
    go_wp2_with fail
    refine (known_out w g gi now ins h HO.out hm HC.out).mono ?_
    rintro e w' ⟨rfl, rfl⟩
    go_wp2_with fail
    go_ret2
    exact ⟨rfl, 0, rfl⟩

set_option maxHeartbeats 800000 in
theorem now_any (w : World) (g gi : Nat) (now : Int) (ins : List Int) (hc : ClockAt w g gi now ins) :
    Calls Try.prog 10 #[.pointer (some ⟨g, 0, none⟩)] w fun e w' => e = .returned (.int .i64 now) ∧ w = w' := by
  have f1 : w.cell? ⟨g, 0, none⟩ = some (.int .i64 now) := hc.1.cell 0
  clear hc
  go_enter Try.func10, Try.ntmps10
  go_wp2_with fail
  go_ret
  exact ⟨rfl, rfl⟩

set_option maxHeartbeats 800000 in
theorem advance_any (w : World) (g gi : Nat) (now : Int) (ins : List Int) (h0 : 0 ≤ now) (h1 : now ≤ 4611686018427387904) (hc : ClockAt w g gi now ins) :
    Calls Try.prog 13 #[.pointer (some ⟨g, 0, none⟩)] w fun e w' => e = .returned (.int .i64 (now + 1)) ∧ ClockAt w' g gi (now + 1) ins ∧ Only w w' g := by
  have f1 : w.cell? ⟨g, 0, none⟩ = some (.int .i64 now) := hc.1.cell 0
  have z1 : ∀ i, w.frozen? ⟨g, i, none⟩ = false := hc.1.frozen
  have HC := Lib.hid hc
  clear hc
  go_enter Try.func13, Try.ntmps13
  go_wp2_with fail
  go_ret
  exact ⟨rfl, ⟨HC.out.1.set_ 0 _, HC.out.2.far (Ob.ne_ HC.out.2 HC.out.1 (by decide)) _⟩, (Only.refl _ _).setCell rfl _⟩

/-- what Enter answers, and does -/
def enC (ins : List Int) (h : Int) : Int := if 0 ≤ h ∧ h < ins.length then (if ins.getD h.toNat 0 = 0 then 0 else 42) else 2
def enI (now : Int) (ins : List Int) (h : Int) : List Int := if enC ins h = 0 then ins.set h.toNat now else ins
def enV (now : Int) (ins : List Int) (h : Int) : Int := if enC ins h = 0 then now else 0

set_option maxRecDepth 100000 in
set_option maxHeartbeats 2000000 in
theorem enter_any (w : World) (g gi : Nat) (now : Int) (ins : List Int) (h : Int) (hm : ins.length ≤ 4) (hc : ClockAt w g gi now ins) :
    Calls Try.prog 11 #[.pointer (some ⟨g, 0, none⟩), .int .i64 h] w fun e w' => e = .returned (.tuple #[.int .i64 (enV now ins h), .int .i64 (enC ins h)]) ∧ ClockAt w' g gi now (enI now ins h) ∧ Only w w' gi := by
  rcases kn_cases ins h with ⟨y, rfl, hy⟩ | ho
  · have HC := Lib.hid hc
    have HY := Lib.hid hy
    have HM := Lib.hid hm
    have f0 : w.cell? ⟨g, 0, none⟩ = some (.int .i64 now) := hc.1.cell 0
    have f1 : w.cell? ⟨g, 1, none⟩ = some (.slice (some ⟨gi, 0, none⟩) ins.length ins.length) := hc.1.cell 1
    have f2 := hc.at_ y hy
    have z1 : ∀ i, w.frozen? ⟨gi, i, none⟩ = false := hc.2.frozen
    have hgg : gi ≠ g := Ob.ne_ hc.2 hc.1 (by decide)
    clear hc
    have e1 : enC ins (y : Int) = if ins.getD y 0 = 0 then 0 else 42 := by unfold enC; rw [if_pos (by omega), Int.toNat_natCast]
    obtain ⟨n, hn⟩ : ∃ n, ins.length = n := ⟨_, rfl⟩
    rw [hn] at f1 hy hm
    clear hn
    have g1 : (y : Int) < (n : Int) := by omega
    by_cases hx : ins.getD y 0 = 0
    · rw [hx] at f2
      have e2 : enC ins (y : Int) = 0 := by rw [e1, if_pos hx]
      have e3 : enV now ins (y : Int) = now := by unfold enV; rw [if_pos e2]
      have e4 : enI now ins (y : Int) = ins.set y now := by unfold enI; rw [if_pos e2, Int.toNat_natCast]
      rw [e2, e3, e4]
      clear e1 e2 e3 e4 hx
      go_enter Try.func11, Try.ntmps11
      go_wp2_with fail
      refine (known_in w g gi now ins y HY.out HM.out HC.out).mono ?_
      rintro e w' ⟨rfl, rfl⟩
      go_wp2_with fail
      go_region
      all_goals try go_wp2_with fail
      all_goals go_ret2
      all_goals exact ⟨rfl, ⟨by rw [List.length_set]; exact (HC.out.1.far hgg.symm _).drew, by rw [← iarr_set]; exact (HC.out.2.set_ y _).drew⟩, ((Only.refl _ _).setCell rfl _).drew⟩
    · have e2 : enC ins (y : Int) = 42 := by rw [e1, if_neg hx]
      have e3 : enV now ins (y : Int) = 0 := by unfold enV; rw [if_neg (by rw [e2]; decide)]
      have e4 : enI now ins (y : Int) = ins := by unfold enI; rw [if_neg (by rw [e2]; decide)]
      rw [e2, e3, e4]
      have hx' : (ins.getD y 0 == 0) = false := by simpa using hx
      clear e1 e2 e3 e4 hx
      generalize ins.getD y 0 = x at f2 hx'
      go_enter Try.func11, Try.ntmps11
      go_wp2_with fail
      refine (known_in w g gi now ins y HY.out HM.out HC.out).mono ?_
      rintro e w' ⟨rfl, rfl⟩
      go_wp2_with fail
      go_ret2
      exact ⟨rfl, HC.out, Only.refl _ _⟩
  · have e2 : enC ins h = 2 := by unfold enC; rw [if_neg (show ¬ (0 ≤ h ∧ h < (ins.length : Int)) from ho)]
    have e3 : enV now ins h = 0 := by unfold enV; rw [if_neg (by rw [e2]; decide)]
    have e4 : enI now ins h = ins := by unfold enI; rw [if_neg (by rw [e2]; decide)]
    rw [e2, e3, e4]
    have HC := Lib.hid hc
    have HO := Lib.hid ho
    clear hc ho e2 e3 e4
    go_enter Try.func11, Try.ntmps11
    go_wp2_with fail
    refine (known_out w g gi now ins h HO.out hm HC.out).mono ?_
    rintro e w' ⟨rfl, rfl⟩
    go_wp2_with fail
    go_ret2
    exact ⟨rfl, HC.out, Only.refl _ _⟩

end Go.Proofs.Ytaclegafgkbmaaa
