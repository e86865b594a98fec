/-
  Layer 17: Leave. Conditions: those of each theorem.
-/
import Derived.Test.YtaclegafgkbmaaaEpochX
namespace Go.Proofs.Ytaclegafgkbmaaa
open Go.RowKit

def LvOk1 (ins ws : List Int) : Prop := ∀ i, i < ws.length → Kn ins (ws.getD i 0) ∧ ∀ k, k < i → ws.getD k 0 ≠ ws.getD i 0
def LvOk2 (ins ws : List Int) : Prop := ∀ i, i < ws.length → ins.getD (ws.getD i 0).toNat 0 ≠ 0
open Classical in
/-- what Leave answers -/
noncomputable def lvC (ins ws : List Int) : Int := if LvOk1 ins ws then (if LvOk2 ins ws then 0 else 41) else 2
def clr (ins ws : List Int) : List Int := ws.foldl (fun l h => l.set h.toNat 0) ins
noncomputable def lvI (ins ws : List Int) : List Int := if lvC ins ws = 0 then clr ins ws else ins
theorem clr_take (ins ws : List Int) (k : Nat) (h : k < ws.length) : clr ins (ws.take (k + 1)) = (clr ins (ws.take k)).set (ws.getD k 0).toNat 0 := by
  unfold clr
  rw [List.take_succ_eq_append_getElem h, List.foldl_append, List.getD_eq_getElem?_getD, List.getElem?_eq_getElem h]
  rfl
theorem clr_length (ins : List Int) : ∀ ws : List Int, (clr ins ws).length = ins.length := by
  intro ws
  unfold clr
  induction ws generalizing ins with
  | nil => rfl
  | cons h r ih => rw [List.foldl_cons, ih, List.length_set]
theorem lvC_2 {ins ws : List Int} (h : ¬ LvOk1 ins ws) : lvC ins ws = 2 := by unfold lvC; rw [if_neg h]
theorem lvC_41 {ins ws : List Int} (h : LvOk1 ins ws) (h2 : ¬ LvOk2 ins ws) : lvC ins ws = 41 := by unfold lvC; rw [if_pos h, if_neg h2]
theorem lvC_0 {ins ws : List Int} (h : LvOk1 ins ws) (h2 : LvOk2 ins ws) : lvC ins ws = 0 := by unfold lvC; rw [if_pos h, if_pos h2]
theorem lvI_ne {ins ws : List Int} (h : lvC ins ws ≠ 0) : lvI ins ws = ins := by unfold lvI; rw [if_neg h]
theorem lvI_eq {ins ws : List Int} (h : lvC ins ws = 0) : lvI ins ws = clr ins ws := by unfold lvI; rw [if_pos h]

theorem sl_iarr {w : World} {A : Option Addr} {ns : List Int} (h : Sl w A (iarr ns)) (hn : 0 < ns.length) :
    ∃ b o, A = some ⟨b, o, none⟩ ∧ ∀ k, k < ns.length → w.cell? ⟨b, o + k, none⟩ = some (.int .i64 (ns.getD k 0)) := by
  obtain ⟨b, o, e, hc⟩ := h (by simpa [iarr] using hn)
  refine ⟨b, o, e, fun k hk => ?_⟩
  have h1 := hc k (by simpa [iarr] using hk)
  rw [h1, List.getD_eq_getElem?_getD, iarr_get ns k hk]
  rfl

/-- the four marks -/
def barr (f : Nat → Bool) : List Value := (List.range 4).map fun j => .bool (f j)
def updB (f : Nat → Bool) (j : Nat) (b : Bool) : Nat → Bool := fun i => if i = j then b else f i
theorem barr_get (f : Nat → Bool) (j : Nat) (h : j < 4) : (barr f)[j]? = some (.bool (f j)) := by simp [barr, h]
theorem barr_set (f : Nat → Bool) (j : Nat) (b : Bool) (h : j < 4) : (barr f).set j (.bool b) = barr (updB f j b) := by
  match j, h with
  | 0, _ => rfl
  | 1, _ => rfl
  | 2, _ => rfl
  | 3, _ => rfl

set_option maxRecDepth 100000 in
set_option maxHeartbeats 4000000 in
theorem leave_any (w : World) (g gi : Nat) (now : Int) (ins ws : List Int) (A : Option Addr) (n c : Nat) (hn : n = ws.length) (hmax : n ≤ 4611686018427387904) (hm : ins.length ≤ 4) (hc : ClockAt w g gi now ins) (hs : Sl w A (iarr ws)) (hne : ∀ p, A = some p → 0 < n → p.block ≠ gi) :
    Calls Try.prog 12 #[.pointer (some ⟨g, 0, none⟩), .slice A n c] w fun r w' => r = .returned (.int .i64 (lvC ins ws)) ∧ ClockAt w' g gi now (lvI ins ws) ∧ Only w w' gi := by
  have HC0 := Lib.hid hc
  have HN := Lib.hid hn
  have HS0 := Lib.hid hs
  have HE := Lib.hid hne
  have HM := Lib.hid hm
  have OQ0 : Hid (Ob (w.alloc (.cells #[.bool false, .bool false, .bool false, .bool false] 51)) w.heap.size 51 (barr fun _ => false)) := Lib.hid (Ob.fresh w 51 (barr fun _ => false))
  have B0 : Hid (Below w.heap.size w (w.alloc (.cells #[.bool false, .bool false, .bool false, .bool false] 51))) := Lib.hid (below_alloc (Below.refl _ _) _)
  clear hn hc hs hne hm
  go_enter Try.func12, Try.ntmps12
  go_wp2_with fail
  generalize w.alloc (.cells #[.bool false, .bool false, .bool false, .bool false] 51) = w1 at OQ0 B0 ⊢
  generalize hq : w.heap.size = q at OQ0 B0 ⊢
  have HQ := Lib.hid hq
  clear hq
  go_loopw [14] (fun i wr => ∃ (k : Nat) (sn : Nat → Bool), k ≤ n ∧ i = .int .i64 k ∧ Ob wr q 51 (barr sn) ∧ Below q w wr ∧ (∀ i, i < k → Kn ins (ws.getD i 0) ∧ ∀ j, j < i → ws.getD j 0 ≠ ws.getD i 0) ∧ (∀ j : Nat, sn j = true ↔ ∃ i, i < k ∧ ws.getD i 0 = (j : Int))) (fun i _ => n - (intOf i).toNat)
  case atStart => exact ⟨0, fun _ => false, Nat.zero_le _, rfl, OQ0.out, B0.out, fun i hi => absurd hi (by omega), fun j => by simp⟩
  case round =>
    obtain ⟨k, sn, hk, rfl, ho, hb, hp, hsn⟩ := hrel
    have OQ := Lib.hid ho
    have B := Lib.hid hb
    have HP := Lib.hid hp
    have HSN := Lib.hid hsn
    have HC := Lib.hid (HC0.out.below (w' := wr) (by rw [HQ.out]; exact hb))
    clear ho hb hp hsn OQ0 B0
    by_cases hlt : k < n
    · have hkl : k < ws.length := by have := HN.out; omega
      obtain ⟨b, o, rfl, hcc⟩ := sl_iarr HS0.out (by omega)
      have f1 : wr.cell? ⟨b, o + k, none⟩ = some (.int .i64 (ws.getD k 0)) := (B.out.cell (by rw [← HQ.out]; exact cell_lt (hcc k hkl))).trans (hcc k hkl)
      clear hcc
      obtain ⟨x, hx⟩ : ∃ x, ws.getD k 0 = x := ⟨_, rfl⟩
      rw [hx] at f1
      have HX := Lib.hid hx
      have HKL := Lib.hid hkl
      clear hx hkl
      have g1 : (k : Int) < (n : Int) := by omega
      rcases kn_cases ins x with ⟨y, rfl, hy⟩ | hun
      · have hy4 : y < 4 := by have := HM.out; omega
        have HY := Lib.hid hy
        have g2 : (y : Int) < 4 := by omega
        have a0 : wr.cell? ⟨q, y, none⟩ = some (.bool (sn y)) := by rw [OQ.out.cell, barr_get sn y hy4]
        have z0 : ∀ i, wr.frozen? ⟨q, i, none⟩ = false := OQ.out.frozen
        clear hy
        cases hb : sn y
        · rw [hb] at a0
          have HB := Lib.hid hb
          clear hb
          go_wp2_with fail
          refine (known_in wr g gi now ins y HY.out HM.out HC.out).mono ?_
          rintro e w' ⟨rfl, rfl⟩
          go_wp2_with fail
          refine ⟨⟨k + 1, updB sn y true, by omega, by go_num, ?_, B.out.setCell (by simp) _, ?_, ?_⟩, by simp [intOf]; omega⟩
          · rw [← barr_set sn y true hy4]; exact OQ.out.set_ y _
          · intro i hi
            by_cases hik : i < k
            · exact HP.out i hik
            · obtain rfl : i = k := by omega
              rw [HX.out]
              refine ⟨⟨by omega, by have := HY.out; omega⟩, fun j hj hjx => ?_⟩
              have := (HSN.out y).2 ⟨j, hj, hjx⟩
              rw [HB.out] at this
              cases this
          · intro j
            unfold updB
            by_cases hj : j = y
            · subst hj
              simp only [if_pos]
              exact ⟨fun _ => ⟨k, by omega, HX.out⟩, fun _ => trivial⟩
            · rw [if_neg hj, HSN.out j]
              constructor
              · rintro ⟨i, hi, he⟩; exact ⟨i, by omega, he⟩
              · rintro ⟨i, hi, he⟩
                by_cases hik : i < k
                · exact ⟨i, hik, he⟩
                · obtain rfl : i = k := by omega
                  rw [HX.out] at he
                  omega
        · rw [hb] at a0
          have hbad : lvC ins ws = 2 := lvC_2 fun hok => by
            obtain ⟨i, hi, he⟩ := (HSN.out y).1 hb
            exact (hok k HKL.out).2 i hi (he.trans HX.out.symm)
          have HBAD := Lib.hid hbad
          clear hbad hb
          go_wp2_with fail
          refine (known_in wr g gi now ins y HY.out HM.out HC.out).mono ?_
          rintro e w' ⟨rfl, rfl⟩
          go_wp2_with fail
          go_ret
          exact ⟨by rw [HBAD.out]; rfl, by rw [lvI_ne (by rw [HBAD.out]; decide)]; exact HC.out, Only.of_below (by rw [HQ.out]; exact B.out) _⟩
      · have hbad : lvC ins ws = 2 := lvC_2 fun hok => by
          have := (hok k HKL.out).1
          rw [HX.out] at this
          exact hun this
        have HBAD := Lib.hid hbad
        have HUN := Lib.hid hun
        clear hbad hun
        go_wp2_with fail
        refine (known_out wr g gi now ins x HUN.out HM.out HC.out).mono ?_
        rintro e w' ⟨rfl, rfl⟩
        go_wp2_with fail
        go_ret
        exact ⟨by rw [HBAD.out]; rfl, by rw [lvI_ne (by rw [HBAD.out]; decide)]; exact HC.out, Only.of_below (by rw [HQ.out]; exact B.out) _⟩
    · have g1 : ¬ (k : Int) < (n : Int) := by omega
      have OK1 : Hid (LvOk1 ins ws) := Lib.hid fun i hi => HP.out i (by have := HN.out; omega)
      have HS : Hid (Sl wr A (iarr ws)) := Lib.hid (Sl.below HS0.out (by rw [HQ.out]; exact B.out))
      have f1 : wr.cell? ⟨g, 1, none⟩ = some (.slice (some ⟨gi, 0, none⟩) ins.length ins.length) := HC.out.1.cell 1
      clear HP HSN OQ
      obtain ⟨L, hL⟩ : ∃ L, ins.length = L := ⟨_, rfl⟩
      rw [hL] at f1
      have HL := Lib.hid hL
      clear hL
      go_wp2_with fail
      go_loopw [32] (fun i wq => ∃ k : Nat, k ≤ n ∧ i = .int .i64 k ∧ wr = wq ∧ ∀ i, i < k → ins.getD (ws.getD i 0).toNat 0 ≠ 0) (fun i _ => n - (intOf i).toNat)
      case atStart => exact ⟨0, Nat.zero_le _, rfl, rfl, fun i hi => absurd hi (by omega)⟩
      case round =>
        obtain ⟨j, hj, rfl, rfl, hp⟩ := hrel
        have HP := Lib.hid hp
        clear hp
        by_cases hlj : j < n
        · have hjl : j < ws.length := by have := HN.out; omega
          obtain ⟨b, o, rfl, hcc⟩ := sl_iarr HS.out (by omega)
          have f2 := hcc j hjl
          have hkj := (OK1.out j hjl).1
          clear hcc
          obtain ⟨x, hx⟩ : ∃ x, ws.getD j 0 = x := ⟨_, rfl⟩
          rw [hx] at f2 hkj
          have HX := Lib.hid hx
          have HJL := Lib.hid hjl
          clear hx hjl
          obtain ⟨y, rfl⟩ : ∃ y : Nat, x = (y : Int) := ⟨x.toNat, by have := hkj.1; omega⟩
          have hy : y < ins.length := by have := hkj.2; omega
          have f3 := HC.out.at_ y hy
          have g2 : (y : Int) < (L : Int) := by have := HL.out; omega
          have g3 : (j : Int) < (n : Int) := by omega
          have hL4 : L ≤ 4 := by have := HM.out; have := HL.out; omega
          clear hkj hy
          obtain ⟨z, hz⟩ : ∃ z, ins.getD y 0 = z := ⟨_, rfl⟩
          rw [hz] at f3
          have HZ := Lib.hid hz
          clear hz
          by_cases hz0 : z = 0
          · subst hz0
            have hbad : lvC ins ws = 41 := lvC_41 OK1.out fun hok => by
              have := hok j HJL.out
              rw [HX.out, Int.toNat_natCast, HZ.out] at this
              exact this rfl
            have HBAD := Lib.hid hbad
            clear hbad
            go_wp2_with fail
            go_ret
            exact ⟨by rw [HBAD.out]; rfl, by rw [lvI_ne (by rw [HBAD.out]; decide)]; exact HC.out, Only.of_below (by rw [HQ.out]; exact B.out) _⟩
          · have hz' : (z == 0) = false := by simpa using hz0
            go_wp2_with fail
            refine ⟨⟨j + 1, by omega, by go_num, trivial, fun i hi => ?_⟩, by simp [intOf]; omega⟩
            by_cases hij : i < j
            · exact HP.out i hij
            · obtain rfl : i = j := by omega
              rw [HX.out, Int.toNat_natCast, HZ.out]
              exact hz0
        · have g3 : ¬ (j : Int) < (n : Int) := by omega
          have OK2 : Hid (LvOk2 ins ws) := Lib.hid fun i hi => HP.out i (by have := HN.out; omega)
          clear HP
          go_wp2_with fail
          go_loopw [47] (fun i wq => ∃ k : Nat, k ≤ n ∧ i = .int .i64 k ∧ ClockAt wq g gi now (clr ins (ws.take k)) ∧ Only wr wq gi) (fun i _ => n - (intOf i).toNat)
          case atStart => exact ⟨0, Nat.zero_le _, rfl, HC.out, Only.refl _ _⟩
          case round =>
            obtain ⟨m, hm, rfl, hc3, hon⟩ := hrel
            have HC3 := Lib.hid hc3
            have HON := Lib.hid hon
            clear hc3 hon
            by_cases hlm : m < n
            · have hml : m < ws.length := by have := HN.out; omega
              obtain ⟨b, o, rfl, hcc⟩ := sl_iarr HS.out (by omega)
              have f2 : wr.cell? ⟨b, o + m, none⟩ = some (.int .i64 (ws.getD m 0)) := HON.out.cell (hcc m hml) (by have := HE.out _ rfl (by omega); exact this)
              have hkm := (OK1.out m hml).1
              have HT := Lib.hid (clr_take ins ws m hml)
              clear hcc
              obtain ⟨x, hx⟩ : ∃ x, ws.getD m 0 = x := ⟨_, rfl⟩
              rw [hx] at f2 hkm
              have HX := Lib.hid hx
              clear hx hml
              obtain ⟨y, rfl⟩ : ∃ y : Nat, x = (y : Int) := ⟨x.toNat, by have := hkm.1; omega⟩
              have hlen := clr_length ins (ws.take m)
              have hy : y < (clr ins (ws.take m)).length := by rw [hlen]; have := hkm.2; omega
              have f3 := HC3.out.at_ y hy
              have f4 : wr.cell? ⟨g, 1, none⟩ = some (.slice (some ⟨gi, 0, none⟩) L L) := by have h := HC3.out.1.cell 1; rw [hlen, HL.out] at h; exact h
              have z0 : ∀ i, wr.frozen? ⟨gi, i, none⟩ = false := HC3.out.2.frozen
              have hgg : gi ≠ g := Ob.ne_ HC3.out.2 HC3.out.1 (by decide)
              have g2 : (y : Int) < (L : Int) := by have := HL.out; have := hkm.2; omega
              have g4 : (m : Int) < (n : Int) := by omega
              have hL4 : L ≤ 4 := by have := HM.out; have := HL.out; omega
              have HLEN := Lib.hid hlen
              clear hkm hy hlen f1
              generalize (clr ins (ws.take m)).getD y 0 = z at f3
              go_wp2_with fail
              refine ⟨⟨m + 1, by omega, by go_num, ?_, HON.out.setCell rfl _⟩, by simp [intOf]; omega⟩
              rw [HT.out, HX.out, Int.toNat_natCast]
              exact ⟨by rw [List.length_set]; exact HC3.out.1.far hgg.symm _, by rw [← iarr_set]; exact HC3.out.2.set_ y _⟩
            · have g4 : ¬ (m : Int) < (n : Int) := by omega
              have hgood := lvC_0 OK1.out OK2.out
              have HG := Lib.hid hgood
              clear hgood
              have e8 : ws.take m = ws := by rw [show m = ws.length by have := HN.out; omega, List.take_length]
              go_wp2_with fail
              go_ret
              exact ⟨by rw [HG.out]; rfl, by rw [lvI_eq HG.out, ← e8]; exact HC3.out, (Only.of_below (by rw [HQ.out]; exact B.out) gi).trans HON.out⟩

end Go.Proofs.Ytaclegafgkbmaaa
