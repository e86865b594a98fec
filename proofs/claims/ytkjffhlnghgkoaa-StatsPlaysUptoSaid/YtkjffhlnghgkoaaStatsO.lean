/-
  Missed and tell of the law StatsMerges. Conditions: none.
-/
import Derived.Test.YtkjffhlnghgkoaaStatsA
import Derived.Test.YtkjffhlnghgkoaaOpenS
namespace Go.Proofs.Ytkjffhlnghgkoaa
open Go.RowKit

attribute [local go_sem] uv_nonneg uv_wrap uv_add uv_sub uv_add1 uv_sub1

def intsV (ns : List Int) : List Value := ns.map fun n => .int .i64 n
theorem intsV_length (ns : List Int) : (intsV ns).length = ns.length := by simp [intsV]
theorem sl_intsV {w : World} {A : Option Addr} {ns : List Int} (h : Sl w A (intsV ns)) (hn : 0 < ns.length) :
    ∃ b o, A = some ⟨b, o, none⟩ ∧ ∀ k, k < ns.length → w.cell? ⟨b, o + k, none⟩ = some (.int .i64 (ns.getD k 0)) := by
  obtain ⟨b, o, rfl, hc⟩ := h (by rw [intsV_length]; exact hn)
  refine ⟨b, o, rfl, fun k hk => ?_⟩
  rw [hc k (by rw [intsV_length]; exact hk)]
  simp [intsV, List.getD_eq_getElem?_getD, hk]

/-- what Missed adds -/
def oneMiss : Tly := fun j => match j with | 1 => 1#64 | _ => 0#64
def missed (H : Nat → BitVec 64) (hs : List Int) : Nat → BitVec 64 := hs.foldl (fun H h => addAt H h.toNat oneMiss) H
theorem missed_take (H : Nat → BitVec 64) (hs : List Int) (k : Nat) (h : k < hs.length) : missed H (hs.take (k + 1)) = addAt (missed H (hs.take k)) (hs.getD k 0).toNat oneMiss := by
  rw [List.take_succ_eq_append_getElem h, List.getD_eq_getElem?_getD, List.getElem?_eq_getElem h]
  unfold missed
  rw [List.foldl_append]
  rfl
theorem upd_miss (H : Nat → BitVec 64) (h : Nat) : upd H (h * 5 + 1) (H (h * 5 + 1) + 1#64) = addAt H h oneMiss := by
  funext i
  unfold upd addAt oneMiss
  by_cases h1 : i = h * 5 + 1
  · subst h1
    rw [if_pos rfl, if_pos (by omega), show (h * 5 + 1) % 5 = 1 from by omega]
    rfl
  · rw [if_neg h1]
    split
    · have : i % 5 ≠ 1 := by omega
      split
      · rename_i he _ ; omega
      · simp
    · rfl

set_option maxRecDepth 100000 in
set_option maxHeartbeats 1000000 in
theorem missed_in (g : Nat) (H : Nat → BitVec 64) (hs : List Int) (A : Option Addr) (c n : Nat) (hn : n = hs.length) (hall : ∀ k, k < hs.length → Hook (hs.getD k 0)) (hmax : n ≤ 4611686018427387904) (w : World)
    (hob : StatAt w g H) (hsl : Sl w A (intsV hs)) (hne : ∀ p, A = some p → p.block ≠ g) :
    Calls Try.prog 17 #[.pointer (some ⟨g, 0, none⟩), .slice A n c] w fun e w' => e = .returned (.int .i64 0) ∧ StatAt w' g (missed H hs) ∧ Only w w' g := by
  have HO := Lib.hid hob
  have HS := Lib.hid hsl
  have HN := Lib.hid hn
  have HA := Lib.hid hall
  have HE := Lib.hid hne
  clear hob hsl hn hall hne
  go_enter Try.func17, Try.ntmps17
  go_wp2_with fail
  go_loopw [11] (fun i wr => ∃ k : Nat, k ≤ n ∧ i = .int .i64 k ∧ w = wr) (fun i _ => n - (intOf i).toNat)
  case atStart => exact ⟨0, Nat.zero_le _, rfl, rfl⟩
  case round =>
    obtain ⟨k, hk, rfl, rfl⟩ := hrel
    by_cases hlt : k < n
    · obtain ⟨b, o, rfl, hcc⟩ := sl_intsV HS.out (by have := HN.out; omega)
      have f1 := hcc k (by have := HN.out; omega)
      have hh := HA.out k (by have := HN.out; omega)
      have HH := Lib.hid hh
      clear hcc hh
      generalize hs.getD k 0 = x at f1 HH
      have g1 : (k : Int) < (n : Int) := by omega
      go_wp2_with fail
      refine (known_in x HH.out _).mono ?_
      rintro e w' ⟨rfl, rfl⟩
      go_wp2_with fail
      go_roundw
      case rel => exact ⟨k + 1, by omega, by go_num, trivial⟩
      case measure => simp [intOf]; omega
    · have g1 : ¬ (k : Int) < (n : Int) := by omega
      clear g1
      go_wp2_with fail
      go_loopw [21] (fun i wr => ∃ k : Nat, k ≤ n ∧ i = .int .i64 k ∧ StatAt wr g (missed H (hs.take k)) ∧ Only w wr g) (fun i _ => n - (intOf i).toNat)
      case atStart => exact ⟨0, Nat.zero_le _, rfl, HO.out, Only.refl _ _⟩
      case round =>
        obtain ⟨j, hj, rfl, hst, hon⟩ := hrel
        have HT := Lib.hid hst
        have HON := Lib.hid hon
        clear hst hon
        by_cases hlj : j < n
        · obtain ⟨b, o, rfl, hcc⟩ := sl_intsV HS.out (by have := HN.out; omega)
          have hjl : j < hs.length := by have := HN.out; omega
          have f1 : wr.cell? ⟨b, o + j, none⟩ = some (.int .i64 (hs.getD j 0)) := HON.out.cell (hcc j hjl) (by have := HE.out _ rfl; exact this)
          have hh := HA.out j hjl
          have HM := Lib.hid (missed_take H hs j hjl)
          clear hcc
          generalize hs.getD j 0 = x at f1 hh HM
          obtain ⟨y, rfl⟩ : ∃ y : Nat, x = (y : Int) := ⟨x.toNat, by have := hh.1; omega⟩
          have hy : y < 4 := by have := hh.2; omega
          clear hh
          rw [Int.toNat_natCast] at HM
          generalize missed H (hs.take j) = F at HT HM
          have a0 : wr.cell? ⟨g, y * 5 + 1, none⟩ = some (.int .u64 (uv (F (y * 5 + 1)))) := HT.out.cells y hy 1 (by omega)
          have z0 : ∀ i, wr.frozen? ⟨g, i, none⟩ = false := HT.out.frozen
          have g1 : (j : Int) < (n : Int) := by omega
          have g2 : (y : Int) < 4 := by omega
          go_wp2_with fail
          go_region
          go_wp2_with fail
          go_roundw
          case rel =>
            refine ⟨j + 1, by omega, by go_num, ?_, ?_⟩
            · rw [HM.out, ← upd_miss]
              have h := Ob.put (pre := []) HT.out (y * 5 + 1) (by omega) (F (y * 5 + 1) + 1#64)
              rw [List.length_nil, Nat.zero_add] at h
              exact h.drew
            · exact (HON.out.setCell rfl _).drew
          case measure => simp [intOf]; omega
        · have g1 : ¬ (j : Int) < (n : Int) := by omega
          have hjn : j = hs.length := by have := HN.out; omega
          subst hjn
          rw [List.take_length] at HT
          go_wp2_with fail
          go_ret
          exact ⟨rfl, HT.out, HON.out⟩

set_option maxHeartbeats 1000000 in
theorem missed_out (P : Value) (hs : List Int) (A : Option Addr) (c n m : Nat) (hn : n = hs.length) (hm : m < hs.length) (hall : ∀ k, k < m → Hook (hs.getD k 0)) (hbad : ¬ Hook (hs.getD m 0)) (hmax : n ≤ 4611686018427387904) (w : World)
    (hsl : Sl w A (intsV hs)) :
    Calls Try.prog 17 #[P, .slice A n c] w fun e w' => e = .returned (.int .i64 2) ∧ w = w' := by
  have HS := Lib.hid hsl
  have HN := Lib.hid hn
  have HA := Lib.hid hall
  have HB := Lib.hid hbad
  have HM := Lib.hid hm
  clear hsl hn hall hbad hm
  obtain ⟨b, o, rfl, hcc⟩ := sl_intsV HS.out (by have := HM.out; omega)
  have HC := Lib.hid hcc
  clear hcc
  go_enter Try.func17, Try.ntmps17
  go_wp2_with fail
  go_loopw [11] (fun i wr => ∃ k : Nat, k ≤ m ∧ i = .int .i64 k ∧ w = wr) (fun i _ => n - (intOf i).toNat)
  case atStart => exact ⟨0, Nat.zero_le _, rfl, rfl⟩
  case round =>
    obtain ⟨k, hk, rfl, rfl⟩ := hrel
    have f1 := HC.out k (by have := HM.out; omega)
    have g1 : (k : Int) < (n : Int) := by have := HN.out; have := HM.out; omega
    by_cases hlt : k < m
    · have HH := Lib.hid (HA.out k hlt)
      generalize hs.getD k 0 = x at f1 HH
      go_wp2_with fail
      refine (known_in x HH.out _).mono ?_
      rintro e w' ⟨rfl, rfl⟩
      go_wp2_with fail
      go_roundw
      case rel => exact ⟨k + 1, by omega, by go_num, trivial⟩
      case measure => simp [intOf]; omega
    · obtain rfl : k = m := by omega
      generalize hs.getD k 0 = x at f1 HB
      go_wp2_with fail
      refine (known_out x HB.out _).mono ?_
      rintro e w' ⟨rfl, rfl⟩
      go_wp2_with fail
      go_ret
      exact ⟨rfl, rfl⟩

end Go.Proofs.Ytkjffhlnghgkoaa
