/-
  Layer 9: may these be a module's maps? Conditions: those of each theorem.
  A code whose loops are nested ends within its cost: plain law. Conditions: those of each theorem.
  Layer 8: the table of helpers, as the row lays it; the program's and the reference's small functions. Conditions: those of each theorem.
  Layer 8: Find. Conditions: those of each theorem.
  Layer 8: the reference's Result, Asks; Value of both. Conditions: those of each theorem.
-/
import Derived.Test.YtikkmkomlajnfaaGreatDoorWm03
import Derived.Test.YtikkmkomlajnfaaGreatDoorWm02
import Derived.Deep.RegionHeld3
import Derived.Test.YtikkmkomlajnfaaGreatDoorChecked
import Derived.Test.YtikkmkomlajnfaaGreatDoorWm01
import Derived.LoopTactic
import Derived.LoopN
import Derived.BigRegion
import Derived.BigQuiet
import Derived.Deep.RegionWith
import Derived.Deep.DeepCutAuto
set_option linter.unusedVariables false
set_option linter.unusedSimpArgs false
section
namespace Go.Proofs.YtikkmkomlajnfaaGreatDoor.Jd
set_option maxRecDepth 100000
set_option maxHeartbeats 4000000
open Go.RowKit

theorem meas_lt2 {L j : Nat} (h : j < L) : L - (intOf (Value.int .i64 ((j : Int) + 1))).toNat < L - (intOf (Value.int .i64 (j : Int))).toNat := by
 simp [intOf]; omega
def ints (ms : List Int) : List Value := ms.map (Value.int .i64)
theorem ints_length (ms : List Int) : (ints ms).length = ms.length := by simp [ints]
theorem int_at {w : World} {A : Option Addr} {ms : List Int} (h : Sl w A (ints ms)) (hn : 0 < ms.length) : ∃ b o, A = some ⟨b, o, none⟩ ∧ ∀ k, k < ms.length → w.cell? ⟨b, o + k, none⟩ = some (.int .i64 (ms.getD k 0)) := by
 obtain ⟨b, o, e, hc⟩ := h (by rw [ints_length]; exact hn)
 rw [ints_length] at hc
 refine ⟨b, o, e, fun k hk => ?_⟩
 rw [hc k hk]
 simp [ints, List.getD_eq_getElem?_getD, List.getElem?_eq_getElem hk]
theorem int_drop (l : List Int) (k : Nat) (h : k < l.length) : l.drop k = l.getD k 0 :: l.drop (k + 1) := by
 rw [List.drop_eq_getElem_cons h, List.getD_eq_getElem?_getD, List.getElem?_eq_getElem h]; rfl
theorem sl_take {w : World} {A : Option Addr} {ms : List Int} (h : Sl w A (ints ms)) (k : Nat) : Sl w A (ints (ms.take k)) := fun hp => by
 rw [ints_length] at hp
 have hl : (ms.take k).length ≤ ms.length := by rw [List.length_take]; omega
 obtain ⟨b, o, e, hc⟩ := h (by rw [ints_length]; omega)
 refine ⟨b, o, e, fun j hj => ?_⟩
 rw [ints_length] at hj
 rw [hc j (by rw [ints_length]; omega)]
 have hj2 : j < k := by rw [List.length_take] at hj; omega
 simp only [ints, List.getD_eq_getElem?_getD, List.getElem?_map, List.getElem?_take, if_pos hj2]

/-- the first place of a number -/
def idxF : List Int → Int → Nat → Int
 | [], _, _ => -1
 | x :: r, n, k => if x = n then k else idxF r n (k + 1)
theorem idx_mem : ∀ (l : List Int) (n : Int) (k : Nat), (0 ≤ idxF l n k) = (n ∈ l)
 | [], n, k => by simp [idxF]
 | x :: r, n, k => by
   unfold idxF
   by_cases h : x = n
   · rw [if_pos h]; simp [h]
   rw [if_neg h, idx_mem r n (k + 1)]
   simp [show ¬ n = x from fun e => h e.symm]

theorem index_any (w : World) (v : Int) (l : List Int) (A : Option Addr) (n c : Nat) (hn : n = l.length) (hm : n ≤ 140737488351232) (hs : Sl w A (ints l)) :
 Calls Tryz.prog 49 #[.slice A n c, .int .i64 v] w fun e w' => e = .returned (.int .i64 (idxF l v 0)) ∧ w = w' := by
 have HN := Lib.hid hn
 have HM := Lib.hid hm
 have HS := Lib.hid hs
 obtain ⟨V, hV⟩ : ∃ V, idxF l v 0 = V := ⟨_, rfl⟩
 rw [hV]
 have HV := Lib.hid hV
 clear hn hs hV hm
 go_enter Tryz.func49, Tryz.ntmps49
 go_wp2_with fail
 go_loopw [8] (fun i wr => ∃ k : Nat, k ≤ n ∧ i = .int .i64 k ∧ idxF (l.drop k) v k = V ∧ w = wr) (fun i _ => n - (intOf i).toNat)
 case atStart => exact ⟨0, Nat.zero_le _, rfl, HV.out, rfl⟩
 case round =>
  obtain ⟨k, hk, rfl, hv, rfl⟩ := hrel
  clear HV
  have HV := Lib.hid hv
  clear hv
  by_cases hlt : k < n
  · have g1 : (k : Int) < (n : Int) := by omega
    have g0 : (0 : Int) ≤ (k : Int) := by omega
    have hkl : k < l.length := by have := HN.out; omega
    obtain ⟨b, o, rfl, hc⟩ := int_at HS.out (by omega)
    have c0 := hc k hkl
    have HSV := Lib.hid (show (if l.getD k 0 = v then (k : Int) else idxF (l.drop (k + 1)) v (k + 1)) = V by rw [← HV.out, int_drop l k hkl]; rfl)
    clear hc hkl HV
    generalize l.getD k 0 = x at c0 HSV
    have g4 : wrap64 ((k : Int) + 1) = (k : Int) + 1 := by have := HM.out; unfold wrap64; omega
    by_cases h1 : x = v
    · subst h1
      have HV2 := Lib.hid (show (k : Int) = V by rw [← HSV.out, if_pos rfl])
      clear HSV
      go_wp2_with fail
      go_ret
      exact ⟨by rw [← HV2.out] <;> first | done | rfl, rfl⟩
    have HV2 := Lib.hid (show idxF (l.drop (k + 1)) v (k + 1) = V by rw [← HSV.out, if_neg h1])
    have h1i : (v == x) = false := by rw [beq_eq_false_iff_ne]; exact fun e => h1 e.symm
    clear HSV h1
    go_wp2_with fail
    go_roundw
    case rel => exact ⟨k + 1, Nat.succ_le_of_lt hlt, by first | exact congrArg (Value.int .i64) (g4.trans (by push_cast; rfl)) | go_num, HV2.out, by trivial⟩
    case measure => first | exact meas_lt2 hlt | (rw [g4]; exact meas_lt2 hlt)
  have g1 : ¬ (k : Int) < (n : Int) := by omega
  have HV2 := Lib.hid (show (-1 : Int) = V by rw [← HV.out, List.drop_eq_nil_of_le (by have := HN.out; omega)]; rfl)
  go_wp2_with fail
  go_ret
  exact ⟨by rw [← HV2.out] <;> first | done | rfl, rfl⟩
theorem contains_any (w : World) (v : Int) (l : List Int) (A : Option Addr) (n c : Nat) (hn : n = l.length) (hm : n ≤ 140737488351232) (hs : Sl w A (ints l)) :
 Calls Tryz.prog 24 #[.slice A n c, .int .i64 v] w fun e w' => e = .returned (.bool (decide (v ∈ l))) ∧ w = w' := by
 have HX := Lib.hid (index_any w v l A n c hn hm hs)
 have hid_ : decide (0 ≤ idxF l v 0) = decide (v ∈ l) := by rw [decide_eq_decide]; rw [idx_mem]
 have HD := Lib.hid hid_
 clear hn hm hs hid_
 generalize idxF l v 0 = z at HX HD
 go_enter Tryz.func24, Tryz.ntmps24
 go_wp2_with fail
 refine HX.out.mono ?_
 rintro e w2 ⟨rfl, rfl⟩
 go_wp2_with fail
 go_ret
 exact ⟨by rw [← HD.out] <;> first | done | rfl, rfl⟩

/-- may these be a module's maps? -/
def badM (ms : List Int) (k : Nat) : Bool := decide (ms.getD k 0 < 0) || decide (4 ≤ ms.getD k 0) || decide (ms.getD k 0 ∈ ms.take k)
def goodF (ms : List Int) (k : Nat) : Nat → Bool
 | 0 => decide (ms.length ≤ 4)
 | f + 1 => if badM ms k = true then false else goodF ms (k + 1) f
def goodV (ms : List Int) : Bool := goodF ms 0 ms.length
theorem good_len {ms : List Int} : ∀ {f k : Nat}, goodF ms k f = true → ms.length ≤ 4
 | 0, _, h => of_decide_eq_true h
 | f + 1, k, h => by
   unfold goodF at h
   by_cases c : badM ms k = true
   · rw [if_pos c] at h; cases h
   rw [if_neg c] at h; exact good_len h

theorem good_any (w : World) (l : List Int) (A : Option Addr) (n c : Nat) (hn : n = l.length) (hnc : n ≤ c) (hm : n ≤ 140737488351232) (hs : Sl w A (ints l)) :
 Calls Tryz.prog 51 #[.slice A n c] w fun e w' => e = .returned (.bool (goodV l)) ∧ w = w' := by
 have HN := Lib.hid hn
 have HM := Lib.hid hm
 have HS := Lib.hid hs
 have HNC := Lib.hid hnc
 obtain ⟨V, hV⟩ : ∃ V, goodV l = V := ⟨_, rfl⟩
 rw [hV]
 have HV := Lib.hid (show goodF l 0 n = V from hn ▸ hV)
 clear hn hs hV hm hnc
 go_enter Tryz.func51, Tryz.ntmps51
 go_wp2_with fail
 go_loopw [7] (fun i wr => ∃ k : Nat, k ≤ n ∧ i = .int .i64 k ∧ goodF l k (n - k) = V ∧ w = wr) (fun i _ => n - (intOf i).toNat)
 case atStart => exact ⟨0, Nat.zero_le _, rfl, HV.out, rfl⟩
 case round =>
  obtain ⟨k, hk, rfl, hv, rfl⟩ := hrel
  clear HV
  have HV := Lib.hid hv
  clear hv
  by_cases hlt : k < n
  · have g1 : (k : Int) < (n : Int) := by omega
    have g0 : (0 : Int) ≤ (k : Int) := by omega
    have hkl : k < l.length := by have := HN.out; omega
    have HT := Lib.hid (contains_any w (l.getD k 0) (l.take k) A k c (by rw [List.length_take]; omega) (by have := HM.out; omega) (sl_take HS.out k))
    have gkc : (k : Int) ≤ (c : Int) := by have := HNC.out; omega
    obtain ⟨b, o, rfl, hc⟩ := int_at HS.out (by omega)
    have c0 := hc k hkl
    have HSV := Lib.hid (show (if badM l k = true then false else goodF l (k + 1) (n - (k + 1))) = V by rw [← HV.out, show n - k = (n - (k + 1)) + 1 by omega]; rfl)
    have HB := Lib.hid (show badM l k = (decide (l.getD k 0 < 0) || decide (4 ≤ l.getD k 0) || decide (l.getD k 0 ∈ l.take k)) from rfl)
    clear hc hkl HV
    generalize badM l k = bm at HSV HB
    obtain ⟨D, hD⟩ : ∃ D, decide (l.getD k 0 ∈ l.take k) = D := ⟨_, rfl⟩
    rw [hD] at HB HT
    clear hD
    generalize l.getD k 0 = x at c0 HB HT
    have g4 : wrap64 ((k : Int) + 1) = (k : Int) + 1 := by have := HM.out; unfold wrap64; omega
    by_cases h1 : x < 0
    · have HV2 := Lib.hid (show false = V by rw [← HSV.out, HB.out, decide_eq_true h1]; rfl)
      clear HSV HB HT
      go_wp2_with fail
      go_ret
      exact ⟨by rw [← HV2.out] <;> first | done | rfl, rfl⟩
    by_cases h2 : 4 ≤ x
    · have HV2 := Lib.hid (show false = V by rw [← HSV.out, HB.out, decide_eq_true h2]; simp)
      have h1d : decide (x < 0) = false := by simpa using h1
      clear HSV HB HT
      go_wp2_with fail
      go_ret
      exact ⟨by rw [← HV2.out] <;> first | done | rfl, rfl⟩
    have HB2 := Lib.hid (show bm = D by rw [HB.out, decide_eq_false h1, decide_eq_false h2]; rfl)
    have h1d : decide (x < 0) = false := by simpa using h1
    have h2d : decide (4 ≤ x) = false := by simpa using h2
    clear HB
    go_wp2_with fail
    refine HT.out.mono ?_
    rintro e w2 ⟨rfl, rfl⟩
    clear HT
    cases D
    · have HV2 := Lib.hid (show goodF l (k + 1) (n - (k + 1)) = V by rw [← HSV.out, HB2.out]; rfl)
      clear HSV HB2
      go_wp2_with fail
      go_roundw
      case rel => exact ⟨k + 1, Nat.succ_le_of_lt hlt, by first | exact congrArg (Value.int .i64) (g4.trans (by push_cast; rfl)) | go_num, HV2.out, by trivial⟩
      case measure => first | exact meas_lt2 hlt | (rw [g4]; exact meas_lt2 hlt)
    have HV2 := Lib.hid (show false = V by rw [← HSV.out, HB2.out]; rfl)
    clear HSV HB2
    go_wp2_with fail
    go_ret
    exact ⟨by rw [← HV2.out] <;> first | done | rfl, rfl⟩
  obtain rfl : k = n := by omega
  have g1 : ¬ (k : Int) < (k : Int) := by omega
  have HV2 := Lib.hid (show decide ((k : Int) ≤ 4) = V by rw [← HV.out, Nat.sub_self]; unfold goodF; rw [← HN.out]; exact decide_eq_decide.2 (by omega))
  go_wp2_with fail
  go_ret
  exact ⟨by rw [← HV2.out] <;> first | done | rfl, rfl⟩

end Go.Proofs.YtikkmkomlajnfaaGreatDoor.Jd
end

section
namespace Go.Proofs.YtikkmkomlajnfaaGreatDoor

/-- a loop: its head, its place, its bound -/
structure LpN where
 h : Nat
 a : Nat
 b : Nat
def LpN.has (l : LpN) (p : Nat) : Prop := l.h ≤ p ∧ p ≤ l.a
instance (l : LpN) (p : Nat) : Decidable (l.has p) := inferInstanceAs (Decidable (_ ∧ _))

/-- how often a place is come to again: within the loops gone through so far, and in a whole turn of them -/
def cst (p : Nat) (T : Nat → Nat) (q : Nat) (s : Nat × Nat) (l : LpN) : Nat × Nat :=
 if l.has q then (if l.has p then s.1 + (l.b - T l.a) * s.2 else if p < l.h then s.2 * (l.b + 1) else 0, s.2 * (l.b + 1)) else s
def cvis (ls : List LpN) (p : Nat) (T : Nat → Nat) (q : Nat) : Nat := (ls.foldl (cst p T q) (if p ≤ q then 1 else 0, 1)).1
def ctimes (ls : List LpN) (q : Nat) : Nat := ls.foldl (fun t l => if l.has q then t * (l.b + 1) else t) 1

theorem cst_le {p : Nat} {T : Nat → Nat} {q : Nat} : ∀ (ls : List LpN) (c f : Nat), c ≤ f → (ls.foldl (cst p T q) (c, f)).1 ≤ (ls.foldl (cst p T q) (c, f)).2
 | [], c, f, h => h
 | l :: ls, c, f, h => by
   rw [List.foldl_cons]
   have key : (cst p T q (c, f) l).1 ≤ (cst p T q (c, f) l).2 := by
    unfold cst
    by_cases h1 : l.has q
    · rw [if_pos h1]
      dsimp only
      have h4 : f * (l.b + 1) = l.b * f + f := by rw [Nat.mul_add, Nat.mul_one, Nat.mul_comm]
      by_cases h2 : l.has p
      · rw [if_pos h2]
        have h3 : (l.b - T l.a) * f ≤ l.b * f := Nat.mul_le_mul_right f (Nat.sub_le _ _)
        omega
      rw [if_neg h2]
      split <;> omega
    rw [if_neg h1]; exact h
   exact cst_le ls (cst p T q (c, f) l).1 (cst p T q (c, f) l).2 key
theorem cst_full {p : Nat} {T : Nat → Nat} {q : Nat} : ∀ (ls : List LpN) (c f : Nat), (ls.foldl (cst p T q) (c, f)).2 = ls.foldl (fun t l => if l.has q then t * (l.b + 1) else t) f
 | [], _, _ => rfl
 | l :: ls, c, f => by
   rw [List.foldl_cons, List.foldl_cons]
   unfold cst
   by_cases h1 : l.has q
   · rw [if_pos h1, if_pos h1]; exact cst_full ls _ _
   rw [if_neg h1, if_neg h1]; exact cst_full ls _ _
theorem cvis_le (ls : List LpN) (p : Nat) (T : Nat → Nat) (q : Nat) : cvis ls p T q ≤ ctimes ls q := by
 unfold cvis ctimes
 rw [← cst_full (p := p) (T := T) ls (if p ≤ q then 1 else 0) 1]
 exact cst_le ls _ _ (by split <;> omega)
theorem cst_pos {p : Nat} {T : Nat → Nat} : ∀ (ls : List LpN) (c f : Nat), 1 ≤ c → 1 ≤ (ls.foldl (cst p T p) (c, f)).1
 | [], c, f, h => h
 | l :: ls, c, f, h => by
   rw [List.foldl_cons]
   unfold cst
   by_cases h1 : l.has p
   · rw [if_pos h1]
     dsimp only
     rw [if_pos h1]
     exact cst_pos ls _ _ (by omega)
   rw [if_neg h1]; exact cst_pos ls _ _ h
theorem cvis_pos (ls : List LpN) (p : Nat) (T : Nat → Nat) : 1 ≤ cvis ls p T p := by
 unfold cvis
 rw [if_pos (Nat.le_refl p)]
 exact cst_pos ls _ _ (Nat.le_refl 1)

/-- on the way forward -/
theorem cst_fwd {p p' : Nat} {T T' : Nat → Nat} {q : Nat} (hlt : p < p') : ∀ (ls : List LpN) (c c' f d : Nat), (∀ l ∈ ls, ¬ l.has p → l.has p' → p' = l.h) → (∀ l ∈ ls, l.has p' → T' l.a = T l.a) → (d = 0 ∨ (d = 1 ∧ q = p)) →
 c' + d ≤ c → c' ≤ f → (ls.foldl (cst p' T' q) (c', f)).1 + d ≤ (ls.foldl (cst p T q) (c, f)).1
 | [], _, _, _, _, _, _, _, h, _ => h
 | l :: ls, c, c', f, d, hent, hT, hd, h, hf => by
   rw [List.foldl_cons, List.foldl_cons]
   unfold cst
   by_cases h1 : l.has q
   · rw [if_pos h1, if_pos h1]
     dsimp only
     have hm : f * (l.b + 1) = l.b * f + f := by rw [Nat.mul_add, Nat.mul_one, Nat.mul_comm]
     have rec_ := fun c c' h hf => cst_fwd (p := p) (p' := p') (T := T) (T' := T') (q := q) hlt ls c c' (f * (l.b + 1)) d (fun m hm => hent m (List.mem_cons_of_mem _ hm)) (fun m hm => hT m (List.mem_cons_of_mem _ hm)) hd h hf
     have hle : ∀ n, (l.b - n) * f ≤ l.b * f := fun n => Nat.mul_le_mul_right f (Nat.sub_le _ _)
     by_cases h2 : l.has p
     · rw [if_pos h2]
       by_cases h3 : l.has p'
       · rw [if_pos h3, hT l List.mem_cons_self h3]
         have := hle (T l.a)
         exact rec_ _ _ (by omega) (by omega)
       rw [if_neg h3, if_neg (by unfold LpN.has at h2 h3; omega)]
       exact rec_ _ _ (by omega) (by omega)
     rw [if_neg h2]
     have hqp : q ≠ p := fun e => h2 (e ▸ h1)
     have hd0 : d = 0 := by omega
     subst hd0
     by_cases h3 : l.has p'
     · have e := hent l List.mem_cons_self h2 h3
       rw [if_pos h3, if_pos (by omega), hT l List.mem_cons_self h3]
       have := hle (T l.a)
       exact rec_ _ _ (by omega) (by omega)
     rw [if_neg h3]
     by_cases h4 : p' < l.h
     · rw [if_pos h4, if_pos (by omega)]
       exact rec_ _ _ (by omega) (by omega)
     rw [if_neg h4]
     exact rec_ _ _ (by omega) (by omega)
   rw [if_neg h1, if_neg h1]
   exact cst_fwd hlt ls c c' f d (fun m hm => hent m (List.mem_cons_of_mem _ hm)) (fun m hm => hT m (List.mem_cons_of_mem _ hm)) hd h hf
theorem cvis_fwd {ls : List LpN} {p p' : Nat} {T T' : Nat → Nat} (hlt : p < p') (hent : ∀ l ∈ ls, ¬ l.has p → l.has p' → p' = l.h) (hT : ∀ l ∈ ls, l.has p' → T' l.a = T l.a) (q : Nat) :
 cvis ls p' T' q + (if q = p then 1 else 0) ≤ cvis ls p T q := by
 unfold cvis
 refine cst_fwd hlt ls _ _ 1 _ hent hT ?_ ?_ ?_
 · by_cases h : q = p
   · rw [if_pos h]; exact .inr ⟨rfl, h⟩
   rw [if_neg h]; exact .inl rfl
 · by_cases h : q = p
   · rw [if_pos h, if_neg (by omega), if_pos (by omega)]; omega
   rw [if_neg h]; split <;> split <;> omega
 split <;> omega

/-- on the way back -/
theorem cst_same {p p' : Nat} {T T' : Nat → Nat} {q : Nat} : ∀ (ls : List LpN) (c c' f d : Nat), (∀ l ∈ ls, (l.has p ↔ l.has p') ∧ (p < l.h ↔ p' < l.h) ∧ T' l.a = T l.a) → (d = 0 ∨ (d = 1 ∧ q = p)) →
 c' + d ≤ c → (ls.foldl (cst p' T' q) (c', f)).1 + d ≤ (ls.foldl (cst p T q) (c, f)).1
 | [], _, _, _, _, _, _, h => h
 | l :: ls, c, c', f, d, hs, hd, h => by
   rw [List.foldl_cons, List.foldl_cons]
   obtain ⟨s1, s2, s3⟩ := hs l List.mem_cons_self
   unfold cst
   by_cases h1 : l.has q
   · rw [if_pos h1, if_pos h1]
     dsimp only
     have rec_ := fun c c' h => cst_same (p := p) (p' := p') (T := T) (T' := T') (q := q) ls c c' (f * (l.b + 1)) d (fun m hm => hs m (List.mem_cons_of_mem _ hm)) hd h
     by_cases h2 : l.has p
     · rw [if_pos h2, if_pos (s1.1 h2), s3]
       exact rec_ _ _ (by omega)
     have hqp : q ≠ p := fun e => h2 (e ▸ h1)
     have hd0 : d = 0 := by omega
     subst hd0
     rw [if_neg h2, if_neg (fun e => h2 (s1.2 e))]
     by_cases h4 : p < l.h
     · rw [if_pos h4, if_pos (s2.1 h4)]; exact rec_ _ _ (by omega)
     rw [if_neg h4, if_neg (fun e => h4 (s2.2 e))]; exact rec_ _ _ (by omega)
   rw [if_neg h1, if_neg h1]
   exact cst_same ls c c' f d (fun m hm => hs m (List.mem_cons_of_mem _ hm)) hd h
/-- the loops ahead of the one that is turned: old 0 or untouched; new at most a whole turn -/
theorem cst_pre {p p' : Nat} {T : Nat → Nat} {q : Nat} (hpp : p' < p) : ∀ (ls : List LpN) (c f : Nat), (∀ l ∈ ls, l.a < p) → (∀ l ∈ ls, p' ≤ l.a → p' ≤ l.h) → q < p' → c = 0 → (ls.foldl (cst p' T q) (c, f)).1 = 0
 | [], _, _, _, _, _, h => h
 | l :: ls, c, f, ha, hn, hq, h => by
   rw [List.foldl_cons]
   unfold cst
   by_cases h1 : l.has q
   · rw [if_pos h1]
     have h2 : ¬ p' ≤ l.a := fun e => by have := hn l List.mem_cons_self e; unfold LpN.has at h1; omega
     rw [if_neg (by unfold LpN.has; omega), if_neg (by unfold LpN.has at h1; omega)]
     exact cst_pre hpp ls _ _ (fun m hm => ha m (List.mem_cons_of_mem _ hm)) (fun m hm => hn m (List.mem_cons_of_mem _ hm)) hq rfl
   rw [if_neg h1]
   exact cst_pre hpp ls _ _ (fun m hm => ha m (List.mem_cons_of_mem _ hm)) (fun m hm => hn m (List.mem_cons_of_mem _ hm)) hq h
theorem cst_none {p : Nat} {T : Nat → Nat} {q : Nat} : ∀ (ls : List LpN) (s : Nat × Nat), (∀ l ∈ ls, l.a < q) → ls.foldl (cst p T q) s = s
 | [], _, _ => rfl
 | l :: ls, s, ha => by
   rw [List.foldl_cons]
   have h1 : ¬ l.has q := fun h => by have := ha l List.mem_cons_self; unfold LpN.has at h; omega
   unfold cst
   rw [if_neg h1]
   exact cst_none ls s (fun m hm => ha m (List.mem_cons_of_mem _ hm))
theorem cvis_back {l1 l2 : List LpN} {l : LpN} {T T' : Nat → Nat} (h0 : l.h < l.a) (hb : T l.a < l.b) (ha1 : ∀ m ∈ l1, m.a < l.a) (hn1 : ∀ m ∈ l1, l.h ≤ m.a → l.h ≤ m.h)
 (ha2 : ∀ m ∈ l2, l.a < m.a) (hn2 : ∀ m ∈ l2, m.h ≤ l.a → m.h ≤ l.h) (hT : T' l.a = T l.a + 1) (hT2 : ∀ m ∈ l2, T' m.a = T m.a) (q : Nat) :
 cvis (l1 ++ l :: l2) l.h T' q + (if q = l.a then 1 else 0) ≤ cvis (l1 ++ l :: l2) l.a T q := by
 unfold cvis
 rw [List.foldl_append, List.foldl_append, List.foldl_cons, List.foldl_cons]
 have hs2 : ∀ m ∈ l2, (m.has l.a ↔ m.has l.h) ∧ (l.a < m.h ↔ l.h < m.h) ∧ T' m.a = T m.a := fun m hm => by
  have e1 := ha2 m hm
  have e2 := hn2 m hm
  exact ⟨by unfold LpN.has; omega, by omega, hT2 m hm⟩
 have hfe : (l1.foldl (cst l.h T' q) (if l.h ≤ q then 1 else 0, 1)).2 = (l1.foldl (cst l.a T q) (if l.a ≤ q then 1 else 0, 1)).2 := by rw [cst_full, cst_full]
 have hle := cst_le (p := l.h) (T := T') (q := q) l1 (if l.h ≤ q then 1 else 0) 1 (by split <;> omega)
 by_cases hq : q = l.a
 · rw [if_pos hq]
   subst hq
   rw [cst_none l1 _ ha1, cst_none l1 _ ha1, if_pos (Nat.le_of_lt h0), if_pos (Nat.le_refl _)]
   have e1 : l.has l.a := ⟨Nat.le_of_lt h0, Nat.le_refl _⟩
   have e2 : l.has l.h := ⟨Nat.le_refl _, Nat.le_of_lt h0⟩
   unfold cst
   rw [if_pos e1, if_pos e1, if_pos e2, if_pos e1]
   dsimp only
   have := cst_same (p := l.a) (p' := l.h) (T := T) (T' := T') (q := l.a) l2 (1 + (l.b - T l.a) * 1) (1 + (l.b - T' l.a) * 1) (1 * (l.b + 1)) 1 hs2 (.inr ⟨rfl, rfl⟩) (by rw [hT]; omega)
   exact this
 rw [if_neg hq, Nat.add_zero]
 generalize hA : l1.foldl (cst l.h T' q) (if l.h ≤ q then 1 else 0, 1) = A at hfe hle
 generalize hB : l1.foldl (cst l.a T q) (if l.a ≤ q then 1 else 0, 1) = B at hfe
 obtain ⟨A1, A2⟩ := A
 obtain ⟨B1, B2⟩ := B
 dsimp only at hfe hle
 subst hfe
 have fin := fun c c' f h => by
  have := cst_same (p := l.a) (p' := l.h) (T := T) (T' := T') (q := q) l2 c c' f 0 hs2 (.inl rfl) h
  rwa [Nat.add_zero] at this
 by_cases hin : l.has q
 · have e1 : l.has l.a := ⟨Nat.le_of_lt h0, Nat.le_refl _⟩
   have e2 : l.has l.h := ⟨Nat.le_refl _, Nat.le_of_lt h0⟩
   have hc1 : cst l.h T' q (A1, A2) l = (A1 + (l.b - T' l.a) * A2, A2 * (l.b + 1)) := by unfold cst; rw [if_pos hin, if_pos e2]
   have hc2 : cst l.a T q (B1, A2) l = (B1 + (l.b - T l.a) * A2, A2 * (l.b + 1)) := by unfold cst; rw [if_pos hin, if_pos e1]
   rw [hc1, hc2]
   refine fin _ _ _ ?_
   have e3 : l.b - T l.a = (l.b - T' l.a) + 1 := by omega
   rw [e3, Nat.add_mul]
   omega
 have hc1 : cst l.h T' q (A1, A2) l = (A1, A2) := by unfold cst; rw [if_neg hin]
 have hc2 : cst l.a T q (B1, A2) l = (B1, A2) := by unfold cst; rw [if_neg hin]
 rw [hc1, hc2]
 refine fin _ _ _ ?_
 by_cases hlow : q < l.h
 · have := cst_pre (p := l.a) (p' := l.h) (T := T') (q := q) h0 l1 (if l.h ≤ q then 1 else 0) 1 ha1 hn1 hlow (if_neg (by omega))
   rw [hA] at this
   dsimp only at this
   omega
 have hhi : l.a < q := by unfold LpN.has at hin; omega
 have ha1' : ∀ m ∈ l1, m.a < q := fun m hm => Nat.lt_trans (ha1 m hm) hhi
 rw [cst_none l1 _ ha1', if_pos (by omega)] at hA hB
 injection hA with hA
 injection hB with hB
 omega

/-- over all places -/
def csum (f : Nat → Nat) : Nat → Nat
 | 0 => 0
 | n + 1 => csum f n + f n
theorem csum_le {f g : Nat → Nat} : ∀ n, (∀ q, q < n → f q ≤ g q) → csum f n ≤ csum g n
 | 0, _ => Nat.le_refl _
 | n + 1, h => by
   have := csum_le n fun q hq => h q (by omega)
   have := h n (by omega)
   unfold csum; omega
theorem csum_lt {f g : Nat → Nat} {p : Nat} : ∀ n, (∀ q, q < n → f q + (if q = p then 1 else 0) ≤ g q) → p < n → csum f n + 1 ≤ csum g n
 | 0, _, hp => absurd hp (Nat.not_lt_zero _)
 | n + 1, h, hp => by
   have hn := h n (by omega)
   unfold csum
   by_cases e : n = p
   · rw [if_pos e] at hn
     have := csum_le (f := f) (g := g) n fun q hq => by have := h q (by omega); omega
     omega
   rw [if_neg e] at hn
   have := csum_lt n (fun q hq => h q (by omega)) (by omega)
   omega
theorem csum_pos {f : Nat → Nat} {p : Nat} (h : 1 ≤ f p) : ∀ n, p < n → 1 ≤ csum f n
 | 0, hp => absurd hp (Nat.not_lt_zero _)
 | n + 1, hp => by
   unfold csum
   by_cases e : n = p
   · subst e; omega
   have := csum_pos h n (by omega)
   omega

end Go.Proofs.YtikkmkomlajnfaaGreatDoor
end

section
namespace Go.Proofs.YtikkmkomlajnfaaGreatDoor.Sg
set_option maxRecDepth 100000
set_option maxHeartbeats 1000000
open Go.RowKit

/-- the table: names, what is wanted, the most, what it asks, whether it does; 7: none -/
def nmB : Nat → ByteArray
 | 0 => ⟨#[103, 101, 116]⟩ | 1 => ⟨#[104, 97, 115]⟩ | 2 => ⟨#[112, 117, 116]⟩ | 3 => ⟨#[100, 101, 108]⟩ | 4 => ⟨#[97, 100, 100]⟩ | 5 => ⟨#[109, 97, 114, 107]⟩ | 6 => ⟨#[110, 111, 116, 101]⟩ | _ => ⟨#[]⟩
def wtB : Nat → ByteArray
 | 0 => ⟨#[104, 110]⟩ | 1 => ⟨#[104, 110]⟩ | 2 => ⟨#[104, 110, 110]⟩ | 3 => ⟨#[104, 110]⟩ | 4 => ⟨#[104, 110, 110]⟩ | 5 => ⟨#[115]⟩ | 6 => ⟨#[110]⟩ | _ => ⟨#[]⟩
def msU : Nat → Int
 | 0 => 18446744073709551615 | 1 => 1 | 2 => 1 | 3 => 1 | 4 => 18446744073709551615 | 5 => 18446744073709551615 | _ => 0
def asI : Nat → Int
 | 0 => 0 | 1 => 1 | 2 => 2 | 3 => 3 | 4 => 4 | _ => 0
def adB : Nat → Bool
 | 0 => true | 1 => true | 2 => true | 3 => true | 4 => true | _ => false
def sg (y : Nat) : List Value := [.string (nmB y), .string (wtB y), .int .u64 (msU y), .int .i64 (asI y), .bool (adB y)]
/-- the table stands in its block -/
def tabL : List Value := sg 0 ++ sg 1 ++ sg 2 ++ sg 3 ++ sg 4 ++ sg 5 ++ sg 6
def Tab (w : World) : Prop := ∃ t fr, w.heap[5]? = some (.cells tabL.toArray t fr)
theorem Tab.lt {w : World} (h : Tab w) : 5 < w.heap.size := by
 obtain ⟨t, fr, h⟩ := h
 exact (Array.getElem?_eq_some_iff.1 h).1
theorem Tab.below {w w' : World} (h : Tab w) (hb : Below w.heap.size w w') : Tab w' := by
 have hl := h.lt
 obtain ⟨t, fr, h⟩ := h
 exact ⟨t, fr, (hb.block _ hl).trans h⟩
theorem tabL_get : ∀ y, y < 7 → ∀ j, j < 5 → tabL[y * 5 + j]? = some ((sg y).getD j undef) := by
 intro y hy j hj
 have h1 : y = 0 ∨ y = 1 ∨ y = 2 ∨ y = 3 ∨ y = 4 ∨ y = 5 ∨ y = 6 := by omega
 have h2 : j = 0 ∨ j = 1 ∨ j = 2 ∨ j = 3 ∨ j = 4 := by omega
 rcases h1 with rfl | rfl | rfl | rfl | rfl | rfl | rfl <;> rcases h2 with rfl | rfl | rfl | rfl | rfl <;> rfl
theorem Tab.at_ {w : World} (h : Tab w) (y : Nat) (hy : y < 7) (j : Nat) (hj : j < 5) : w.cell? ⟨5, y * 5 + j, none⟩ = some ((sg y).getD j undef) := by
 obtain ⟨t, fr, h⟩ := h
 rw [cell_of_row w _ _ _ t fr h, ← tabL_get y hy j hj]
 simp
def hI (h : Int) : Nat := if 0 ≤ h ∧ h < 7 then h.toNat else 7
theorem hI_nat {y : Nat} (hy : y < 7) : hI (y : Int) = y := by unfold hI; rw [if_pos (by omega)]; omega
theorem hI_out {h : Int} (hh : h < 0 ∨ 7 ≤ h) : hI h = 7 := by unfold hI; rw [if_neg (by omega)]
theorem h_cases (h : Int) : (∃ y : Nat, h = (y : Int) ∧ y < 7) ∨ h < 0 ∨ (¬ h < 0 ∧ 7 ≤ h) := by
 by_cases hh : 0 ≤ h ∧ h < 7
 · exact .inl ⟨h.toNat, by omega, by omega⟩
 exact .inr (by omega)
theorem y_cases {y : Nat} (hy : y < 7) : y = 0 ∨ y = 1 ∨ y = 2 ∨ y = 3 ∨ y = 4 ∨ y = 5 ∨ y = 6 := by omega

def sgVal (y : Nat) : Value := .agg #[.string (nmB y), .string (wtB y), .int .u64 (msU y), .int .i64 (asI y), .bool (adB y)]

theorem of_any (w : World) (h : Int) (ht : Tab w) :
 Calls Tryz.prog 122 #[.int .i64 h] w fun e w' => e = .returned (.tuple #[sgVal (hI h), .bool (decide (hI h < 7))]) ∧ Below w.heap.size w w' := by
 rcases h_cases h with ⟨y, rfl, hy⟩ | h0 | ⟨h0, h1⟩
 · rw [hI_nat hy, decide_eq_true hy]
   have f0 : w.cell? ⟨5, y * 5, none⟩ = some (.string (nmB y)) := ht.at_ y hy 0 (by omega)
   have f1 : w.cell? ⟨5, y * 5 + 1, none⟩ = some (.string (wtB y)) := ht.at_ y hy 1 (by omega)
   have f2 : w.cell? ⟨5, y * 5 + 2, none⟩ = some (.int .u64 (msU y)) := ht.at_ y hy 2 (by omega)
   have f3 : w.cell? ⟨5, y * 5 + 3, none⟩ = some (.int .i64 (asI y)) := ht.at_ y hy 3 (by omega)
   have f4 : w.cell? ⟨5, y * 5 + 4, none⟩ = some (.bool (adB y)) := ht.at_ y hy 4 (by omega)
   have hlt := ht.lt
   unfold sgVal
   clear ht
   generalize nmB y = a0 at f0 ⊢
   generalize wtB y = a1 at f1 ⊢
   generalize msU y = a2 at f2 ⊢
   generalize asI y = a3 at f3 ⊢
   generalize adB y = a4 at f4 ⊢
   have g1 : (y : Int) < 7 := by omega
   have HO := Lib.hid (Ob.fresh w 222 [.string a0, .string a1, .int .u64 a2, .int .i64 a3, .bool a4])
   have HB := Lib.hid (below_alloc (Below.refl w.heap.size w) (.cells #[.string a0, .string a1, .int .u64 a2, .int .i64 a3, .bool a4] 222))
   go_enter Tryz.func122, Tryz.ntmps122
   go_wp2_with fail
   generalize w.alloc (.cells #[.string a0, .string a1, .int .u64 a2, .int .i64 a3, .bool a4] 222) = w2 at HO HB ⊢
   have s0 : w2.cell? ⟨w.heap.size, 0, none⟩ = some (.string a0) := HO.out.cell 0
   have s1 : w2.cell? ⟨w.heap.size, 1, none⟩ = some (.string a1) := HO.out.cell 1
   have s2 : w2.cell? ⟨w.heap.size, 2, none⟩ = some (.int .u64 a2) := HO.out.cell 2
   have s3 : w2.cell? ⟨w.heap.size, 3, none⟩ = some (.int .i64 a3) := HO.out.cell 3
   have s4 : w2.cell? ⟨w.heap.size, 4, none⟩ = some (.bool a4) := HO.out.cell 4
   exact bodyPost_ret (v := .tuple #[.agg #[.string a0, .string a1, .int .u64 a2, .int .i64 a3, .bool a4], .bool true]) (by simp [results, Tryz.results122, go_sem, s0, s1, s2, s3, s4]) rfl ⟨rfl, HB.out⟩
 · rw [hI_out (.inl h0)]
   clear ht
   have HO := Lib.hid (Ob.fresh w 222 [.string ⟨#[]⟩, .string ⟨#[]⟩, .int .u64 0, .int .i64 0, .bool false])
   have HB := Lib.hid (below_alloc (Below.refl w.heap.size w) (.cells #[.string ⟨#[]⟩, .string ⟨#[]⟩, .int .u64 0, .int .i64 0, .bool false] 222))
   go_enter Tryz.func122, Tryz.ntmps122
   go_wp2_with fail
   generalize w.alloc (.cells #[.string ⟨#[]⟩, .string ⟨#[]⟩, .int .u64 0, .int .i64 0, .bool false] 222) = w2 at HO HB ⊢
   have s0 : w2.cell? ⟨w.heap.size, 0, none⟩ = some (.string ⟨#[]⟩) := HO.out.cell 0
   have s1 : w2.cell? ⟨w.heap.size, 1, none⟩ = some (.string ⟨#[]⟩) := HO.out.cell 1
   have s2 : w2.cell? ⟨w.heap.size, 2, none⟩ = some (.int .u64 0) := HO.out.cell 2
   have s3 : w2.cell? ⟨w.heap.size, 3, none⟩ = some (.int .i64 0) := HO.out.cell 3
   have s4 : w2.cell? ⟨w.heap.size, 4, none⟩ = some (.bool false) := HO.out.cell 4
   exact bodyPost_ret (v := .tuple #[.agg #[.string ⟨#[]⟩, .string ⟨#[]⟩, .int .u64 0, .int .i64 0, .bool false], .bool false]) (by simp [results, Tryz.results122, go_sem, s0, s1, s2, s3, s4]) rfl ⟨rfl, HB.out⟩
 rw [hI_out (.inr h1)]
 clear ht
 have HO := Lib.hid (Ob.fresh w 222 [.string ⟨#[]⟩, .string ⟨#[]⟩, .int .u64 0, .int .i64 0, .bool false])
 have HB := Lib.hid (below_alloc (Below.refl w.heap.size w) (.cells #[.string ⟨#[]⟩, .string ⟨#[]⟩, .int .u64 0, .int .i64 0, .bool false] 222))
 go_enter Tryz.func122, Tryz.ntmps122
 go_wp2_with fail
 generalize w.alloc (.cells #[.string ⟨#[]⟩, .string ⟨#[]⟩, .int .u64 0, .int .i64 0, .bool false] 222) = w2 at HO HB ⊢
 have s0 : w2.cell? ⟨w.heap.size, 0, none⟩ = some (.string ⟨#[]⟩) := HO.out.cell 0
 have s1 : w2.cell? ⟨w.heap.size, 1, none⟩ = some (.string ⟨#[]⟩) := HO.out.cell 1
 have s2 : w2.cell? ⟨w.heap.size, 2, none⟩ = some (.int .u64 0) := HO.out.cell 2
 have s3 : w2.cell? ⟨w.heap.size, 3, none⟩ = some (.int .i64 0) := HO.out.cell 3
 have s4 : w2.cell? ⟨w.heap.size, 4, none⟩ = some (.bool false) := HO.out.cell 4
 exact bodyPost_ret (v := .tuple #[.agg #[.string ⟨#[]⟩, .string ⟨#[]⟩, .int .u64 0, .int .i64 0, .bool false], .bool false]) (by simp [results, Tryz.results122, go_sem, s0, s1, s2, s3, s4]) rfl ⟨rfl, HB.out⟩

theorem asks_any (w : World) (h : Int) (ht : Tab w) :
 Calls Tryz.prog 94 #[.int .i64 h] w fun e w' => e = .returned (.tuple #[.int .i64 (asI (hI h)), .bool (adB (hI h))]) ∧ Below w.heap.size w w' := by
 obtain ⟨a0, ha0⟩ : ∃ a, nmB (hI h) = a := ⟨_, rfl⟩
 try rw [ha0]
 have HA0 := Lib.hid ha0
 clear ha0
 obtain ⟨a1, ha1⟩ : ∃ a, wtB (hI h) = a := ⟨_, rfl⟩
 try rw [ha1]
 have HA1 := Lib.hid ha1
 clear ha1
 obtain ⟨a2, ha2⟩ : ∃ a, msU (hI h) = a := ⟨_, rfl⟩
 try rw [ha2]
 have HA2 := Lib.hid ha2
 clear ha2
 obtain ⟨a3, ha3⟩ : ∃ a, asI (hI h) = a := ⟨_, rfl⟩
 try rw [ha3]
 have HA3 := Lib.hid ha3
 clear ha3
 obtain ⟨a4, ha4⟩ : ∃ a, adB (hI h) = a := ⟨_, rfl⟩
 try rw [ha4]
 have HA4 := Lib.hid ha4
 clear ha4
 have HT := Lib.hid ht
 clear ht
 go_enter Tryz.func94, Tryz.ntmps94
 go_wp2_with fail
 refine (of_any w h HT.out).mono ?_
 rintro e w1 ⟨rfl, b1⟩
 unfold sgVal
 rw [HA0.out, HA1.out, HA2.out, HA3.out, HA4.out]
 have HB1 := Lib.hid b1
 clear b1
 generalize decide (hI h < 7) = ok
 have HB2 := Lib.hid (below_alloc HB1.out (.cells #[.string a0, .string a1, .int .u64 a2, .int .i64 a3, .bool a4] 222))
 have HO := Lib.hid (Ob.fresh w1 222 [.string a0, .string a1, .int .u64 a2, .int .i64 a3, .bool a4])
 go_upto_region 2 with fail
 generalize w1.alloc (.cells #[.string a0, .string a1, .int .u64 a2, .int .i64 a3, .bool a4] 222) = w2 at HO HB2 ⊢
 have s3 : w2.cell? ⟨w1.heap.size, 3, none⟩ = some (.int .i64 a3) := HO.out.cell 3
 have s4 : w2.cell? ⟨w1.heap.size, 4, none⟩ = some (.bool a4) := HO.out.cell 4
 go_wp2_with fail
 go_quiet (fail)
 go_wp2_with fail
 go_ret2
 exact ⟨rfl, below_drewN HB2.out _⟩

/-- a type -/
structure TypeV where
 kind : Int
 lo : Int
 hi : Int
 mp : Int
def ty0 : TypeV := ⟨0, 0, 0, 0⟩
def tyc (a : TypeV) : List Value := [.int .i64 a.kind, .int .u64 a.lo, .int .u64 a.hi, .int .i64 a.mp]
def tyVal (a : TypeV) : Value := .agg #[.int .i64 a.kind, .int .u64 a.lo, .int .u64 a.hi, .int .i64 a.mp]

theorem number_any (w : World) (z : Int) :
 Calls Tryz.prog 123 #[.int .u64 z] w fun e w' => e = .returned (tyVal ⟨1, 0, z, 0⟩) ∧ Below w.heap.size w w' := by
 have HO := Lib.hid (Ob.fresh w 134 [.int .i64 1, .int .u64 0, .int .u64 z, .int .i64 0])
 have HB := Lib.hid (below_alloc (Below.refl w.heap.size w) (.cells #[.int .i64 1, .int .u64 0, .int .u64 z, .int .i64 0] 134))
 go_enter Tryz.func123, Tryz.ntmps123
 go_wp2_with fail
 generalize w.alloc (.cells #[.int .i64 1, .int .u64 0, .int .u64 z, .int .i64 0] 134) = w2 at HO HB ⊢
 have s0 : w2.cell? ⟨w.heap.size, 0, none⟩ = some (.int .i64 1) := HO.out.cell 0
 have s1 : w2.cell? ⟨w.heap.size, 1, none⟩ = some (.int .u64 0) := HO.out.cell 1
 have s2 : w2.cell? ⟨w.heap.size, 2, none⟩ = some (.int .u64 z) := HO.out.cell 2
 have s3 : w2.cell? ⟨w.heap.size, 3, none⟩ = some (.int .i64 0) := HO.out.cell 3
 exact bodyPost_ret (v := tyVal ⟨1, 0, z, 0⟩) (by simp [results, Tryz.results123, go_sem, tyVal, s0, s1, s2, s3]) rfl ⟨rfl, HB.out⟩

end Go.Proofs.YtikkmkomlajnfaaGreatDoor.Sg
end

section
namespace Go.Proofs.YtikkmkomlajnfaaGreatDoor.Sg
set_option maxRecDepth 100000
set_option maxHeartbeats 1000000
open Go.RowKit

theorem wp_index_agg {P : Program} {o : Oper} {a : Act} {w : World} {K : Act → World → Prop} {Q : Exit → Act → World → Prop} (ty : TypeId) (x i : Operand) (ho : o.op = .index ty x i) (v : Value)
 (hr : (Instr.index ty (a.eval x) (a.eval i)).run P w = .ok v w) (h : K (a.put o.dst v) w) : o.wp P a w K Q := by
 unfold Oper.wp execOp
 simp only [ho, hr, Sem.run_bind, Sem.run_pure, Result.andThen_ok]
 exact h
theorem wpList_index_agg {P : Program} {ops : Array Oper} {rest : List Oper} {o : Oper} {a : Act} {w : World} {Q : Exit → Act → World → Prop} (hgd : o.guard = none) (ty : TypeId) (x i : Operand) (ho : o.op = .index ty x i) (v : Value)
 (hr : (Instr.index ty (a.eval x) (a.eval i)).run P w = .ok v w) (h : wpList P ops Q rest (a.put o.dst v) w) : wpList P ops Q (o :: rest) a w :=
 wpList_plain hgd fun _ hK => wp_index_agg ty x i ho v hr (hK _ _ h)
theorem bs_ne {a b : ByteArray} (h : a ≠ b) : (a.toList == b.toList) = false := by
 rw [ByteArray.toList_eq, ByteArray.toList_eq]
 simp only [beq_eq_false_iff_ne, ne_eq]
 intro he
 exact h (ByteArray.ext (Array.toList_inj.1 he))
/-- what Result tells -/
def rsT (y : Nat) : TypeV := if y < 7 then ⟨1, 0, msU y, 0⟩ else ty0

theorem result_any (w : World) (h : Int) (ht : Tab w) :
 Calls Tryz.prog 89 #[.int .i64 h] w fun e w' => e = .returned (.tuple #[tyVal (rsT (hI h)), .bool (decide (hI h < 7))]) ∧ Below w.heap.size w w' := by
 have HT : Hid (Tab (w.alloc (.cells #[.int .i64 0, .int .u64 0, .int .u64 0, .int .i64 0] 134))) := Lib.hid (ht.below (below_alloc (Below.refl _ _) _))
 have HO := Lib.hid (Ob.fresh w 134 [.int .i64 0, .int .u64 0, .int .u64 0, .int .i64 0])
 have HB := Lib.hid (below_alloc (Below.refl w.heap.size w) (.cells #[.int .i64 0, .int .u64 0, .int .u64 0, .int .i64 0] 134))
 clear ht
 obtain ⟨y, hy⟩ : ∃ y, hI h = y := ⟨_, rfl⟩
 rw [hy]
 have HY := Lib.hid hy
 clear hy
 go_enter Tryz.func89, Tryz.ntmps89
 go_wp2_with fail
 generalize w.alloc (.cells #[.int .i64 0, .int .u64 0, .int .u64 0, .int .i64 0] 134) = w1 at HT HO HB ⊢
 obtain ⟨q, hq⟩ : ∃ q, w.heap.size = q := ⟨_, rfl⟩
 have HBq : Below q w w1 := by rw [← hq]; exact HB.out
 have HQ := Lib.hid hq
 rw [hq] at HO ⊢
 have HBS : q ≤ w1.heap.size := by rw [← hq]; exact HB.out.size
 clear hq
 refine (of_any w1 h HT.out).mono ?_
 rintro e w2 ⟨rfl, b2⟩
 rw [HY.out]
 unfold sgVal
 have HB2 := Lib.hid (HBq.trans (b2.mono HBS))
 have HO2 := Lib.hid (HO.out.below b2 HO.out.lt)
 clear b2 HO HB HT HBq HBS
 obtain ⟨a2, ha2⟩ : ∃ a, msU y = a := ⟨_, rfl⟩
 rw [ha2]
 have HA2 := Lib.hid ha2
 clear ha2
 by_cases hy7 : y < 7
 · have hR := Lib.hid (show tyVal (rsT y) = .agg #[.int .i64 1, .int .u64 0, .int .u64 a2, .int .i64 0] by unfold rsT; rw [if_pos hy7, HA2.out]; rfl)
   have hD := Lib.hid (decide_eq_true hy7)
   rw [hD.out]
   generalize nmB y = a0
   generalize wtB y = a1
   generalize asI y = a3
   generalize adB y = a4
   have HO3 := Lib.hid (HO2.out.alloc (.cells #[.string a0, .string a1, .int .u64 a2, .int .i64 a3, .bool a4] 222))
   have HB3 := Lib.hid (HB2.out.alloc (Nat.le_trans (Nat.le_of_eq HQ.out.symm) HB2.out.size) (.cells #[.string a0, .string a1, .int .u64 a2, .int .i64 a3, .bool a4] 222))
   go_wp2_with fail
   generalize w2.alloc (.cells #[.string a0, .string a1, .int .u64 a2, .int .i64 a3, .bool a4] 222) = w3 at HO3 HB3 ⊢
   refine (number_any w3 a2).mono ?_
   rintro e w4 ⟨rfl, b4⟩
   have HO4 := Lib.hid (HO3.out.below b4 HO3.out.lt)
   have HB4 := Lib.hid (HB3.out.trans (b4.mono (Nat.le_trans (Nat.le_of_eq HQ.out.symm) HB3.out.size)))
   have z0 := HO4.out.frozen
   have r0 := HO4.out.c0
   have r1 := HO4.out.c1
   have r2 := HO4.out.c2
   have r3 := HO4.out.c3
   clear b4 HO2 HB2 HO3 HB3
   unfold tyVal
   go_wp2_with fail
   have hw := (((HB4.out.setCell (p := ⟨q, 0, none⟩) (by simp) (.int .i64 1)).setCell (p := ⟨q, 1, none⟩) (by simp) (.int .u64 0)).setCell (p := ⟨q, 2, none⟩) (by simp) (.int .u64 a2)).setCell (p := ⟨q, 3, none⟩) (by simp) (.int .i64 0)
   have ho := (((HO4.out.set_ 0 (.int .i64 1)).set_ 1 (.int .u64 0)).set_ 2 (.int .u64 a2)).set_ 3 (.int .i64 0)
   generalize (((w4.setCell ⟨q, 0, none⟩ (.int .i64 1)).setCell ⟨q, 1, none⟩ (.int .u64 0)).setCell ⟨q, 2, none⟩ (.int .u64 a2)).setCell ⟨q, 3, none⟩ (.int .i64 0) = w2 at hw ho ⊢
   have HOX := Lib.hid ho
   have s0 := HOX.out.c0
   have s1 := HOX.out.c1
   have s2 := HOX.out.c2
   have s3 := HOX.out.c3
   exact bodyPost_ret (v := .tuple #[.agg #[.int .i64 1, .int .u64 0, .int .u64 a2, .int .i64 0], .bool true]) (by simp [results, Tryz.results89, go_sem, s0, s1, s2, s3]) rfl ⟨by rw [hR.out, hD.out], by rw [HQ.out]; exact hw⟩
 have hR := Lib.hid (show tyVal (rsT y) = .agg #[.int .i64 0, .int .u64 0, .int .u64 0, .int .i64 0] by unfold rsT; rw [if_neg hy7]; rfl)
 have hD := Lib.hid (decide_eq_false hy7)
 rw [hD.out]
 generalize nmB y = a0
 generalize wtB y = a1
 generalize asI y = a3
 generalize adB y = a4
 have HO3 := Lib.hid (HO2.out.alloc (.cells #[.string a0, .string a1, .int .u64 a2, .int .i64 a3, .bool a4] 222))
 have HB3 := Lib.hid (HB2.out.alloc (Nat.le_trans (Nat.le_of_eq HQ.out.symm) HB2.out.size) (.cells #[.string a0, .string a1, .int .u64 a2, .int .i64 a3, .bool a4] 222))
 go_upto_region 3 with fail
 generalize w2.alloc (.cells #[.string a0, .string a1, .int .u64 a2, .int .i64 a3, .bool a4] 222) = w4 at HO3 HB3 ⊢
 have z0 := HO3.out.frozen
 have r0 := HO3.out.c0
 have r1 := HO3.out.c1
 have r2 := HO3.out.c2
 have r3 := HO3.out.c3
 clear HO2 HB2
 go_wp2_with fail
 have hw := (((HB3.out.setCell (p := ⟨q, 0, none⟩) (by simp) (.int .i64 0)).setCell (p := ⟨q, 1, none⟩) (by simp) (.int .u64 0)).setCell (p := ⟨q, 2, none⟩) (by simp) (.int .u64 0)).setCell (p := ⟨q, 3, none⟩) (by simp) (.int .i64 0)
 have ho := (((HO3.out.set_ 0 (.int .i64 0)).set_ 1 (.int .u64 0)).set_ 2 (.int .u64 0)).set_ 3 (.int .i64 0)
 generalize (((w4.setCell ⟨q, 0, none⟩ (.int .i64 0)).setCell ⟨q, 1, none⟩ (.int .u64 0)).setCell ⟨q, 2, none⟩ (.int .u64 0)).setCell ⟨q, 3, none⟩ (.int .i64 0) = w2 at hw ho ⊢
 have HOX := Lib.hid ho
 have s0 := HOX.out.c0
 have s1 := HOX.out.c1
 have s2 := HOX.out.c2
 have s3 := HOX.out.c3
 exact bodyPost_ret (v := .tuple #[.agg #[.int .i64 0, .int .u64 0, .int .u64 0, .int .i64 0], .bool false]) (by simp [results, Tryz.results89, go_sem, s0, s1, s2, s3]) rfl ⟨by rw [hR.out, hD.out], by rw [HQ.out]; exact hw⟩

end Go.Proofs.YtikkmkomlajnfaaGreatDoor.Sg
end

section
namespace Go.Proofs.YtikkmkomlajnfaaGreatDoor.Sg
set_option maxRecDepth 100000
set_option maxHeartbeats 4000000
open Go.RowKit

/-- a result of an operation -/
structure ResV where
 e : Int
 found : Bool
 val : Int
 isOut : Bool
 ok : Int
 ov : Int
def rec_ (r : ResV) : List Value := [.int .i64 r.e, .bool r.found, .int .u64 r.val, .bool r.isOut, .int .u64 r.ok, .int .u64 r.ov]
def reVal (r : ResV) : Value := .agg #[.int .i64 r.e, .bool r.found, .int .u64 r.val, .bool r.isOut, .int .u64 r.ok, .int .u64 r.ov]
/-- the number that comes back -/
def vlOf (y : Nat) (r : ResV) : Int := if y = 0 ∨ y = 4 then r.val else if ((y = 1 ∨ y = 3) ∧ r.found = true) ∨ (y = 2 ∧ r.e = 0) then 1 else 0
theorem eqs_out {h : Int} (hh : h < 0 ∨ 7 ≤ h) : (h == 0) = false ∧ (h == 1) = false ∧ (h == 2) = false ∧ (h == 3) = false ∧ (h == 4) = false ∧ (h == 5) = false ∧ (h == 6) = false := by
 refine ⟨?_, ?_, ?_, ?_, ?_, ?_, ?_⟩ <;> simp <;> omega

theorem value_any (w : World) (h : Int) (r : ResV) :
 Calls Tryz.prog 62 #[.int .i64 h, reVal r] w fun e w' => e = .returned (.int .u64 (vlOf (hI h) r)) ∧ Below w.heap.size w w' := by
 have HB := Lib.hid (below_alloc (Below.refl w.heap.size w) (.cells #[.int .i64 r.e, .bool r.found, .int .u64 r.val, .bool r.isOut, .int .u64 r.ok, .int .u64 r.ov] 97))
 obtain ⟨V, hV⟩ : ∃ V, vlOf (hI h) r = V := ⟨_, rfl⟩
 rw [hV]
 have HV := Lib.hid hV
 clear hV
 unfold reVal
 obtain ⟨re, rf, rv, ro, rk, rov⟩ := r
 simp only at HB ⊢
 rcases h_cases h with ⟨y, rfl, hy⟩ | hh
 · have HY := Lib.hid (hI_nat hy)
   rcases y_cases hy with rfl | rfl | rfl | rfl | rfl | rfl | rfl
   · have HF := Lib.hid (show V = rv by rw [← HV.out, HY.out]; simp [vlOf])
     go_enter Tryz.func62, Tryz.ntmps62
     go_wp2_with fail
     go_ret
     exact ⟨by rw [HF.out]; rfl, HB.out⟩
   · cases rf
     · have HF := Lib.hid (show V = 0 by rw [← HV.out, HY.out]; simp [vlOf])
       go_enter Tryz.func62, Tryz.ntmps62
       go_wp2_with fail
       go_ret
       exact ⟨by rw [HF.out]; rfl, HB.out⟩
     have HF := Lib.hid (show V = 1 by rw [← HV.out, HY.out]; simp [vlOf])
     go_enter Tryz.func62, Tryz.ntmps62
     go_wp2_with fail
     go_ret
     exact ⟨by rw [HF.out]; rfl, HB.out⟩
   · by_cases he : re = 0
     · subst he
       have HF := Lib.hid (show V = 1 by rw [← HV.out, HY.out]; simp [vlOf])
       go_enter Tryz.func62, Tryz.ntmps62
       go_wp2_with fail
       go_ret
       exact ⟨by rw [HF.out]; rfl, HB.out⟩
     have he' : (re == 0) = false := by simpa using he
     have HF := Lib.hid (show V = 0 by rw [← HV.out, HY.out]; simp [vlOf, he])
     go_enter Tryz.func62, Tryz.ntmps62
     go_wp2_with fail
     go_ret
     exact ⟨by rw [HF.out]; rfl, HB.out⟩
   · cases rf
     · have HF := Lib.hid (show V = 0 by rw [← HV.out, HY.out]; simp [vlOf])
       go_enter Tryz.func62, Tryz.ntmps62
       go_wp2_with fail
       go_ret
       exact ⟨by rw [HF.out]; rfl, HB.out⟩
     have HF := Lib.hid (show V = 1 by rw [← HV.out, HY.out]; simp [vlOf])
     go_enter Tryz.func62, Tryz.ntmps62
     go_wp2_with fail
     go_ret
     exact ⟨by rw [HF.out]; rfl, HB.out⟩
   · have HF := Lib.hid (show V = rv by rw [← HV.out, HY.out]; simp [vlOf])
     go_enter Tryz.func62, Tryz.ntmps62
     go_wp2_with fail
     go_ret
     exact ⟨by rw [HF.out]; rfl, HB.out⟩
   · have HF := Lib.hid (show V = 0 by rw [← HV.out, HY.out]; simp [vlOf])
     go_enter Tryz.func62, Tryz.ntmps62
     go_wp2_with fail
     go_ret
     exact ⟨by rw [HF.out]; rfl, HB.out⟩
   have HF := Lib.hid (show V = 0 by rw [← HV.out, HY.out]; simp [vlOf])
   go_enter Tryz.func62, Tryz.ntmps62
   go_wp2_with fail
   go_ret
   exact ⟨by rw [HF.out]; rfl, HB.out⟩
 have hh2 : h < 0 ∨ 7 ≤ h := by omega
 have HY := Lib.hid (hI_out hh2)
 obtain ⟨q0, q1, q2, q3, q4, q5, q6⟩ := eqs_out hh2
 clear hh hh2
 have HF := Lib.hid (show V = 0 by rw [← HV.out, HY.out]; simp [vlOf])
 go_enter Tryz.func62, Tryz.ntmps62
 go_wp2_with fail
 go_ret
 exact ⟨by rw [HF.out]; rfl, HB.out⟩

end Go.Proofs.YtikkmkomlajnfaaGreatDoor.Sg
end
