/-
  Layer 8: Args. Conditions: those of each theorem.
  Layer 8: the reference's Args; alike on equal lists; Within of both. Conditions: those of each theorem.
  Layer 8: Within of the reference; Check of both; awake. Conditions: those of each theorem.
  The walks of the layer scratch. Conditions: none.
  awake of layer 10. Conditions: none.
  The walks of the layer arith that the layer span reaches: each function of the program and of the reference, at every argument. Conditions: none.
-/
import Derived.Test.YtikkmkomlajnfaaGreatDoorWm05
import Derived.Lib.OthersKept
import Derived.Test.YtikkmkomlajnfaaGreatDoorWm01
import Derived.Deep.RegionHeld3
import Derived.Test.YtikkmkomlajnfaaGreatDoorRows
import Derived.Deep.QuietTactic
import Derived.BigQuiet
import Derived.BigRegion
import Derived.Test.YtikkmkomlajnfaaGreatDoorWm02
set_option linter.unusedVariables false
set_option linter.unusedSimpArgs false
section
namespace Go.Proofs.YtikkmkomlajnfaaGreatDoor.Sg
set_option maxRecDepth 100000
set_option maxHeartbeats 4000000
open Go.RowKit

theorem Tab.tch {S : Nat → Prop} {w w' : World} (h : Tab w) (k : Tch S w w') (hn : ¬ S 5) : Tab w' := by
 have hl := h.lt
 obtain ⟨t, fr, h⟩ := h
 exact ⟨t, fr, (k.block _ hl hn).trans h⟩

def tys (l : List TypeV) : List Value := l.flatMap tyc
theorem tys_length (l : List TypeV) : (tys l).length = l.length * 4 := by
 induction l with
 | nil => rfl
 | cons f r ih => simp only [tys, List.flatMap_cons, List.length_append, List.length_cons] at ih ⊢; rw [ih, show (tyc f).length = 4 from rfl]; omega
theorem tys_app (a b : List TypeV) : tys (a ++ b) = tys a ++ tys b := List.flatMap_append
theorem tys_one (t : TypeV) : tys [t] = tyc t := by simp [tys]
theorem tys_get : ∀ (l : List TypeV) (i j : Nat), i < l.length → j < 4 → (tys l)[i * 4 + j]? = (tyc (l.getD i ty0))[j]?
 | f :: r, 0, j, _, hj => by
   simp only [tys, List.flatMap_cons, Nat.zero_mul, Nat.zero_add]
   rw [List.getElem?_append_left hj]
   rfl
 | f :: r, i + 1, j, hi, hj => by
   simp only [tys, List.flatMap_cons]
   have h5 : (tyc f).length = 4 := rfl
   rw [List.getElem?_append_right (by rw [h5]; omega), h5, show (i + 1) * 4 + j - 4 = i * 4 + j from by omega]
   exact tys_get r i j (by simpa using hi) hj
theorem tyc_one (t : TypeV) : ∀ u ∈ tyc t, u.oneCell' = true := by
 intro u hu
 simp only [tyc, List.mem_cons, List.mem_nil_iff, or_false] at hu
 rcases hu with rfl | rfl | rfl | rfl <;> rfl
theorem type_info : (Tryz.prog.info? 134).map (fun i => (i.zero, i.size, i.bytes)) = some (some (.agg #[.int .i64 0, .int .u64 0, .int .u64 0, .int .i64 0]), 4, 32) := by kernel_rfl

/-- what a letter wants -/
def runeT (c : Nat) : TypeV := if c = 104 then ⟨2, 0, 0, 0⟩ else if c = 115 then ⟨1, 0, 15, 0⟩ else ⟨1, 0, 18446744073709551615, 0⟩
def wantL (s : ByteArray) (k : Nat) : List TypeV := (s.data.toList.take k).map fun b => runeT b.toNat
theorem wantL_succ (s : ByteArray) (k : Nat) (h : k < s.size) : wantL s (k + 1) = wantL s k ++ [runeT (s[k]'h).toNat] := by
 unfold wantL
 have hl : k < s.data.toList.length := by simpa using h
 rw [List.take_succ_eq_append_getElem hl, List.map_append]
 rfl
theorem wantL_length (s : ByteArray) (k : Nat) (h : k ≤ s.size) : (wantL s k).length = k := by
 unfold wantL
 rw [List.length_map, List.length_take]
 have h2 : k ≤ s.data.toList.length := by simpa using h
 omega
/-- what a helper wants -/
def argsL (y : Nat) : List TypeV := wantL (wtB y) (wtB y).size
theorem wtB_ascii (y : Nat) (i : Nat) (h : i < (wtB y).size) : ((wtB y)[i]'h).toNat < 128 := by
 have hall : ∀ y, y < 8 → (wtB y).data.toList.all (fun b => decide (b.toNat < 128)) = true := by decide
 have h8 : ∀ y, 7 ≤ y → wtB y = ⟨#[]⟩ := fun y hy => by
  match y, hy with
  | y + 7, _ => rfl
 by_cases hy : y < 8
 · have h1 := List.all_eq_true.1 (hall y hy) ((wtB y)[i]'h) (by
    have hl : i < (wtB y).data.toList.length := by simpa using h
    exact List.getElem_mem hl)
   simpa using h1
 rw [h8 y (by omega)] at h
 exact absurd h (by simp [ByteArray.size])
theorem wtB_size (y : Nat) : (wtB y).size ≤ 3 := by
 match y with
 | 0 => decide
 | 1 => decide
 | 2 => decide
 | 3 => decide
 | 4 => decide
 | 5 => decide
 | 6 => decide
 | y + 7 => exact (by decide : (⟨#[]⟩ : ByteArray).size ≤ 3)

/-- an iterator is no row -/
theorem own_ne_iter {w : World} {B : Nat} {e : TypeId} {size : Nat} {v : Value} {n : Nat} {xs : List Value} {k : Nat} {s : ByteArray} {pos : Nat} (h : w.ownsRow B e size v n xs) (hk : w.heap[k]? = some (.stringIter s pos)) : v.ownBlock ≠ some k := by
 intro hv
 rcases h.2 with ⟨rfl, _⟩ | ⟨g', cap, cur, rfl, _, hg, _⟩
 · cases hv
 injection hv with hv
 subst hv
 rw [hg] at hk
 cases hk
theorem own_iterAt {w : World} {B : Nat} {e : TypeId} {size : Nat} {v : Value} {n : Nat} {xs : List Value} {k : Nat} {s : ByteArray} {pos : Nat} (h : w.ownsRow B e size v n xs) (hk : w.heap[k]? = some (.stringIter s pos)) (pos' : Nat) : (w.iterAt k s pos').ownsRow B e size v n xs := by
 have hne := own_ne_iter h hk
 refine ⟨h.1, ?_⟩
 rcases h.2 with h0 | ⟨g, cap, cur, hv, hb, hg, rest⟩
 · exact .inl h0
 refine .inr ⟨g, cap, cur, hv, hb, (Lib.iterAt_other w k g s pos' fun e => ?_).trans hg, rest⟩
 subst hv e
 exact hne rfl

theorem args_any (w : World) (h : Int) (ht : Tab w) :
 Calls Tryz.prog 88 #[.int .i64 h] w fun e w' => ∃ v, e = .returned v ∧ w'.ownsRow w.heap.size 134 4 v (argsL (hI h)).length (tys (argsL (hI h))) ∧ Below w.heap.size w w' := by
 obtain ⟨Z, hZ⟩ : ∃ Z, argsL (hI h) = Z := ⟨_, rfl⟩
 rw [hZ]
 have HZ := Lib.hid hZ
 have HT := Lib.hid ht
 clear hZ ht
 obtain ⟨i0, hi0, hz0, hz1, hz2⟩ := info_parts type_info
 go_enter Tryz.func88, Tryz.ntmps88
 go_wp2_with fail
 refine (of_any w h HT.out).mono ?_
 rintro e w1 ⟨rfl, b1⟩
 unfold sgVal
 unfold argsL at HZ
 have HAS := Lib.hid (wtB_ascii (hI h))
 have HSZ := Lib.hid (wtB_size (hI h))
 generalize nmB (hI h) = a0
 generalize wtB (hI h) = s at HZ HAS HSZ ⊢
 generalize msU (hI h) = a2
 generalize asI (hI h) = a3
 generalize adB (hI h) = a4
 generalize decide (hI h < 7) = ok
 have HB2 := Lib.hid ((below_alloc b1 (.cells #[.string a0, .string s, .int .u64 a2, .int .i64 a3, .bool a4] 222)).alloc (below_alloc b1 (.cells #[.string a0, .string s, .int .u64 a2, .int .i64 a3, .bool a4] 222)).size (.stringIter s 0))
 have HK0 : Hid (((w1.alloc (.cells #[.string a0, .string s, .int .u64 a2, .int .i64 a3, .bool a4] 222)).iter s 0).heap[w1.heap.size + 1]? = some (.stringIter s 0)) := Lib.hid (by
  have h5 := World.iter_heap (w1.alloc (.cells #[.string a0, .string s, .int .u64 a2, .int .i64 a3, .bool a4] 222)) s 0
  simpa using h5)
 have hbs : w.heap.size ≤ w1.heap.size + 1 := by have := b1.size; omega
 have HBS := Lib.hid hbs
 clear b1 hbs
 have HB3 : Hid (Below w.heap.size w ((w1.alloc (.cells #[.string a0, .string s, .int .u64 a2, .int .i64 a3, .bool a4] 222)).iter s 0)) := HB2
 clear HB2
 go_wp2_with fail
 generalize (w1.alloc (.cells #[.string a0, .string s, .int .u64 a2, .int .i64 a3, .bool a4] 222)).iter s 0 = wz at HB3 HK0 ⊢
 generalize hbi : w1.heap.size + 1 = bi at HK0 HBS ⊢
 clear hbi
 go_loopw [5] (fun u wr => ∃ (pos : Nat), pos ≤ s.size ∧ wr.heap[bi]? = some (.stringIter s pos) ∧ wr.ownsRow w.heap.size 134 4 u pos (tys (wantL s pos)) ∧ Below w.heap.size w wr) (fun _ wr => s.size - wr.iterPos bi)
 case atStart => exact ⟨0, Nat.zero_le _, HK0.out, World.ownsRow_nil _ _ _ _, HB3.out⟩
 case round =>
  obtain ⟨pos, hps, hk, hown, hb⟩ := hrel
  have HK := Lib.hid hk
  have HO := Lib.hid hown
  have HB := Lib.hid hb
  have HMU : Hid (wr.iterPos bi = pos) := Lib.hid (by simp [World.iterPos, hk])
  clear hk hown hb HK0 HB3
  by_cases hp : pos < s.size
  · have hnext := fun ty => Lib.run_next_ascii_at (P := Tryz.prog) wr bi s pos ty HK.out hp (HAS.out pos hp)
    have W1K := Lib.hid (Lib.iterAt_heap wr bi s pos (pos + 1) HK.out)
    have W1O := Lib.hid (own_iterAt HO.out HK.out (pos + 1))
    have W1B := Lib.hid (Lib.below_iterAt HB.out HBS.out s (pos + 1))
    have HSU := Lib.hid (wantL_succ s pos hp)
    generalize wr.iterAt bi s (pos + 1) = W1 at hnext W1K W1O W1B
    generalize hc : (s[pos]'hp).toNat = c at hnext HSU
    clear hc
    by_cases h104 : c = 104
    · subst h104
      have HC := Lib.hid (show runeT 104 = ⟨2, 0, 0, 0⟩ from rfl)
      go_wp2_with
      (at_builtin
       refine wpList_append_in _ rfl (.tmp 26) (.tmp 28) _ rfl (below_alloc W1B.out _) 134 i0 _ 4 32 Tryz.underlying182 hi0 hz0 hz1 hz2 rfl (by omega) u5 pos (tys (wantL s pos)) rfl (World.ownsRow.alloc W1O.out _)
        (some ⟨W1.heap.size, 0, none⟩) 1 1 (tyc ⟨2, 0, 0, 0⟩) rfl rfl (Sl.fresh W1 (tyc ⟨2, 0, 0, 0⟩).toArray 134 (0, 0)) (tyc_one _) (by have := HSZ.out; omega) (by omega) ?_
       intro v2 w2 hown hb2 g1 g2
       have HR := Lib.hid hown
       have HB4 := Lib.hid hb2
       have HK4 : Hid (w2.heap[bi]? = some (.stringIter s (pos + 1))) := Lib.hid ((g1.block bi (by have := W1K.out; simp; have h9 := (Array.getElem?_eq_some_iff.1 this).1; omega) (fun e => own_ne_iter W1O.out W1K.out e.symm)).trans ((heap_alloc_old _ _ ((Array.getElem?_eq_some_iff.1 W1K.out).1)).trans W1K.out))
       clear hown hb2 g1 g2)
      go_roundw
      case rel => exact ⟨pos + 1, by omega, HK4.out, by rw [HSU.out, HC.out, tys_app, tys_one]; exact HR.out, HB4.out⟩
      case measure => rw [HMU.out]; simp [World.iterPos, HK4.out]; omega
    have h104' : ((c : Int) == 104) = false := by simp; omega
    by_cases h115 : c = 115
    · subst h115
      have HC := Lib.hid (show runeT 115 = ⟨1, 0, 15, 0⟩ from rfl)
      go_wp2_with fail
      refine (number_any W1 _).mono ?_
      rintro e wn ⟨rfl, bn⟩
      have wnB := Lib.hid (W1B.out.trans (bn.mono W1B.out.size))
      have wnK := Lib.hid ((bn.block _ ((Array.getElem?_eq_some_iff.1 W1K.out).1)).trans W1K.out)
      have wnO := Lib.hid (own_tch (S := fun _ => False) W1O.out (Tch.of_below bn) fun _ _ => id)
      clear bn
      unfold tyVal
      go_wp2_with
      (at_builtin
       refine wpList_append_in _ rfl (.tmp 32) (.tmp 34) _ rfl (below_alloc wnB.out _) 134 i0 _ 4 32 Tryz.underlying182 hi0 hz0 hz1 hz2 rfl (by omega) u5 pos (tys (wantL s pos)) rfl (World.ownsRow.alloc wnO.out _)
        (some ⟨wn.heap.size, 0, none⟩) 1 1 (tyc ⟨1, 0, 15, 0⟩) rfl rfl (Sl.fresh wn (tyc ⟨1, 0, 15, 0⟩).toArray 134 (0, 0)) (tyc_one _) (by have := HSZ.out; omega) (by omega) ?_
       intro v2 w2 hown hb2 g1 g2
       have HR := Lib.hid hown
       have HB4 := Lib.hid hb2
       have HK4 : Hid (w2.heap[bi]? = some (.stringIter s (pos + 1))) := Lib.hid ((g1.block bi (by have := wnK.out; simp; have h9 := (Array.getElem?_eq_some_iff.1 this).1; omega) (fun e => own_ne_iter wnO.out wnK.out e.symm)).trans ((heap_alloc_old _ _ ((Array.getElem?_eq_some_iff.1 wnK.out).1)).trans wnK.out))
       clear hown hb2 g1 g2)
      go_roundw
      case rel => exact ⟨pos + 1, by omega, HK4.out, by rw [HSU.out, HC.out, tys_app, tys_one]; exact HR.out, HB4.out⟩
      case measure => rw [HMU.out]; simp [World.iterPos, HK4.out]; omega
    have h115' : ((c : Int) == 115) = false := by simp; omega
    have HC := Lib.hid (show runeT c = ⟨1, 0, 18446744073709551615, 0⟩ by unfold runeT; rw [if_neg h104, if_neg h115])
    go_wp2_with fail
    refine (number_any W1 _).mono ?_
    rintro e wn ⟨rfl, bn⟩
    have wnB := Lib.hid (W1B.out.trans (bn.mono W1B.out.size))
    have wnK := Lib.hid ((bn.block _ ((Array.getElem?_eq_some_iff.1 W1K.out).1)).trans W1K.out)
    have wnO := Lib.hid (own_tch (S := fun _ => False) W1O.out (Tch.of_below bn) fun _ _ => id)
    clear bn
    unfold tyVal
    go_wp2_with
    (at_builtin
     refine wpList_append_in _ rfl (.tmp 20) (.tmp 22) _ rfl (below_alloc wnB.out _) 134 i0 _ 4 32 Tryz.underlying182 hi0 hz0 hz1 hz2 rfl (by omega) u5 pos (tys (wantL s pos)) rfl (World.ownsRow.alloc wnO.out _)
      (some ⟨wn.heap.size, 0, none⟩) 1 1 (tyc ⟨1, 0, 18446744073709551615, 0⟩) rfl rfl (Sl.fresh wn (tyc ⟨1, 0, 18446744073709551615, 0⟩).toArray 134 (0, 0)) (tyc_one _) (by have := HSZ.out; omega) (by omega) ?_
     intro v2 w2 hown hb2 g1 g2
     have HR := Lib.hid hown
     have HB4 := Lib.hid hb2
     have HK4 : Hid (w2.heap[bi]? = some (.stringIter s (pos + 1))) := Lib.hid ((g1.block bi (by have := wnK.out; simp; have h9 := (Array.getElem?_eq_some_iff.1 this).1; omega) (fun e => own_ne_iter wnO.out wnK.out e.symm)).trans ((heap_alloc_old _ _ ((Array.getElem?_eq_some_iff.1 wnK.out).1)).trans wnK.out))
     clear hown hb2 g1 g2)
    go_roundw
    case rel => exact ⟨pos + 1, by omega, HK4.out, by rw [HSU.out, HC.out, tys_app, tys_one]; exact HR.out, HB4.out⟩
    case measure => rw [HMU.out]; simp [World.iterPos, HK4.out]; omega
  have hnext := fun ty => Lib.run_next_end_at (P := Tryz.prog) wr bi s pos ty HK.out hp
  have hpe : pos = s.size := by omega
  subst hpe
  have hl := Lib.hid (wantL_length s s.size (Nat.le_refl _))
  go_wp2_with fail
  go_ret
  exact ⟨u5, rfl, by rw [← HZ.out, hl.out]; exact HO.out, HB.out⟩

end Go.Proofs.YtikkmkomlajnfaaGreatDoor.Sg
end

section
namespace Go.Proofs.YtikkmkomlajnfaaGreatDoor.Sg
set_option maxRecDepth 100000
set_option maxHeartbeats 2000000
open Go.RowKit

theorem argsL_0 : argsL 0 = [⟨2, 0, 0, 0⟩, ⟨1, 0, 18446744073709551615, 0⟩] := rfl
theorem argsL_1 : argsL 1 = [⟨2, 0, 0, 0⟩, ⟨1, 0, 18446744073709551615, 0⟩] := rfl
theorem argsL_2 : argsL 2 = [⟨2, 0, 0, 0⟩, ⟨1, 0, 18446744073709551615, 0⟩, ⟨1, 0, 18446744073709551615, 0⟩] := rfl
theorem argsL_3 : argsL 3 = [⟨2, 0, 0, 0⟩, ⟨1, 0, 18446744073709551615, 0⟩] := rfl
theorem argsL_4 : argsL 4 = [⟨2, 0, 0, 0⟩, ⟨1, 0, 18446744073709551615, 0⟩, ⟨1, 0, 18446744073709551615, 0⟩] := rfl
theorem argsL_5 : argsL 5 = [⟨1, 0, 15, 0⟩] := rfl
/-- a list of types reads, at A -/
theorem tys_at {w : World} {A : Option Addr} {l : List TypeV} (h : Sl w A (tys l)) (hn : 0 < l.length) :
 ∃ b o, A = some ⟨b, o, none⟩ ∧ b < w.heap.size ∧ ∀ k, k < l.length → ∀ j, j < 4 → w.cell? ⟨b, o + k * 4 + j, none⟩ = some ((tyc (l.getD k ty0)).getD j undef) := by
 obtain ⟨b, o, e, hc⟩ := h (by rw [tys_length]; omega)
 rw [tys_length] at hc
 refine ⟨b, o, e, cell_lt (hc 0 (by omega)), fun k hk j hj => ?_⟩
 have h1 := hc (k * 4 + j) (by omega)
 rw [← Nat.add_assoc] at h1
 rw [h1, List.getD_eq_getElem?_getD, tys_get l k j hk hj, ← List.getD_eq_getElem?_getD]

/-- a span as a value -/
def spVal (lo hi : Int) : Value := .agg #[.int .u64 lo, .int .u64 hi]
def withinB (al ah bl bh : Int) : Bool := decide (al ≤ ah ∧ bl ≤ al ∧ ah ≤ bh)

theorem right_any (w : World) (lo hi : Int) :
 Calls Tryz.prog 124 #[spVal lo hi] w fun e w' => e = .returned (.bool (decide (lo ≤ hi))) ∧ Below w.heap.size w w' := by
 unfold spVal
 have HB := Lib.hid (below_alloc (Below.refl w.heap.size w) (.cells #[.int .u64 lo, .int .u64 hi] 132))
 by_cases h : lo ≤ hi
 · have h2 : ¬ hi < lo := by omega
   rw [decide_eq_true h]
   go_enter Tryz.func124, Tryz.ntmps124
   go_wp2_with fail
   go_ret
   exact ⟨by simp [*], HB.out⟩
 have h2 : hi < lo := by omega
 rw [decide_eq_false h]
 go_enter Tryz.func124, Tryz.ntmps124
 go_wp2_with fail
 go_ret
 exact ⟨by simp [*], HB.out⟩

theorem within_any (w : World) (al ah bl bh : Int) :
 Calls Tryz.prog 121 #[spVal al ah, spVal bl bh] w fun e w' => e = .returned (.bool (withinB al ah bl bh)) ∧ Below w.heap.size w w' := by
 obtain ⟨V, hV⟩ : ∃ V, withinB al ah bl bh = V := ⟨_, rfl⟩
 rw [hV]
 have HV := Lib.hid hV
 clear hV
 have HRA := Lib.hid (fun w => right_any w al ah)
 unfold spVal at HRA ⊢
 have B1 := Lib.hid (below_alloc (below_alloc (Below.refl w.heap.size w) (.cells #[.int .u64 al, .int .u64 ah] 132)) (.cells #[.int .u64 bl, .int .u64 bh] 132))
 have OA := Lib.hid ((Ob.fresh w 132 [.int .u64 al, .int .u64 ah]).alloc (.cells #[.int .u64 bl, .int .u64 bh] 132))
 have OB : Hid (Ob ((w.alloc (.cells #[.int .u64 al, .int .u64 ah] 132)).alloc (.cells #[.int .u64 bl, .int .u64 bh] 132)) (w.heap.size + 1) 132 [.int .u64 bl, .int .u64 bh]) := Lib.hid (by
  have h := Ob.fresh (w.alloc (.cells #[.int .u64 al, .int .u64 ah] 132)) 132 [.int .u64 bl, .int .u64 bh]
  simpa using h)
 go_enter Tryz.func121, Tryz.ntmps121
 go_upto_region 1 with fail
 generalize (w.alloc (.cells #[.int .u64 al, .int .u64 ah] 132)).alloc (.cells #[.int .u64 bl, .int .u64 bh] 132) = w1 at B1 OA OB ⊢
 have a0 : w1.cell? ⟨w.heap.size, 0, none⟩ = some (.int .u64 al) := OA.out.cell 0
 have a1 : w1.cell? ⟨w.heap.size, 1, none⟩ = some (.int .u64 ah) := OA.out.cell 1
 go_wp2_with fail
 refine (HRA.out w1).mono ?_
 rintro e w2 ⟨rfl, b2⟩
 have B2 := Lib.hid (B1.out.trans (b2.mono B1.out.size))
 have a0 : w2.cell? ⟨w.heap.size, 0, none⟩ = some (.int .u64 al) := (OA.out.below b2 OA.out.lt).cell 0
 have a1 : w2.cell? ⟨w.heap.size, 1, none⟩ = some (.int .u64 ah) := (OA.out.below b2 OA.out.lt).cell 1
 have c0 : w2.cell? ⟨w.heap.size + 1, 0, none⟩ = some (.int .u64 bl) := (OB.out.below b2 OB.out.lt).cell 0
 have c1 : w2.cell? ⟨w.heap.size + 1, 1, none⟩ = some (.int .u64 bh) := (OB.out.below b2 OB.out.lt).cell 1
 clear b2 B1 OA OB
 by_cases h0 : al ≤ ah
 · have h0d : decide (al ≤ ah) = true := decide_eq_true h0
   rw [h0d]
   by_cases h1 : bl ≤ al
   · by_cases h2 : ah ≤ bh
     · have HR := Lib.hid (show V = true by rw [← HV.out]; unfold withinB; exact decide_eq_true ⟨h0, h1, h2⟩)
       go_wp2_with fail
       go_ret
       exact ⟨by rw [HR.out]; simp [*], B2.out⟩
     have HR := Lib.hid (show V = false by rw [← HV.out]; unfold withinB; exact decide_eq_false fun h => h2 h.2.2)
     go_wp2_with fail
     go_ret
     exact ⟨by rw [HR.out]; simp [*], B2.out⟩
   have HR := Lib.hid (show V = false by rw [← HV.out]; unfold withinB; exact decide_eq_false fun h => h1 h.2.1)
   go_wp2_with fail
   go_ret
   exact ⟨by rw [HR.out]; simp [*], B2.out⟩
 have h0d : decide (al ≤ ah) = false := decide_eq_false h0
 rw [h0d]
 have HR := Lib.hid (show V = false by rw [← HV.out]; unfold withinB; exact decide_eq_false fun h => h0 h.1)
 go_wp2_with fail
 go_ret
 exact ⟨by rw [HR.out]; rfl, B2.out⟩

end Go.Proofs.YtikkmkomlajnfaaGreatDoor.Sg
end

section
namespace Go.Proofs.YtikkmkomlajnfaaGreatDoor.Sg
set_option maxRecDepth 100000
set_option maxHeartbeats 8000000
open Go.RowKit

/-- what Check answers to lists of one length -/
def ckL : List TypeV → List TypeV → Int
 | t :: W, a :: l => if a.kind ≠ t.kind then 33 else if t.kind = 1 ∧ withinB a.lo a.hi t.lo t.hi = false then 35 else ckL W l
 | _, _ => 0
def ckOf (h : Int) (l : List TypeV) : Int := if hI h < 7 then (if (argsL (hI h)).length = l.length then ckL (argsL (hI h)) l else 2) else 34
theorem drop_at (l : List TypeV) (k : Nat) (h : k < l.length) : l.drop k = l.getD k ty0 :: l.drop (k + 1) := by
 rw [List.drop_eq_getElem_cons h, List.getD_eq_getElem?_getD, List.getElem?_eq_getElem h]; rfl
theorem ckL_at (W l : List TypeV) (k : Nat) (h : k < W.length) (h2 : k < l.length) :
 ckL (W.drop k) (l.drop k) = if (l.getD k ty0).kind ≠ (W.getD k ty0).kind then 33 else if (W.getD k ty0).kind = 1 ∧ withinB (l.getD k ty0).lo (l.getD k ty0).hi (W.getD k ty0).lo (W.getD k ty0).hi = false then 35 else ckL (W.drop (k + 1)) (l.drop (k + 1)) := by
 rw [drop_at W k h, drop_at l k h2, ckL]
theorem argsL_len (y : Nat) : (argsL y).length ≤ 3 := by
 unfold argsL
 rw [wantL_length _ _ (Nat.le_refl _)]
 exact wtB_size y

theorem check_any (w : World) (h : Int) (l : List TypeV) (A : Option Addr) (n c : Nat) (hn : n = l.length) (hm : n ≤ 4611686018427387904) (ht : Tab w) (hs : Sl w A (tys l)) :
 Calls Tryz.prog 87 #[.int .i64 h, .slice A n c] w fun e w' => e = .returned (.int .i64 (ckOf h l)) ∧ Below w.heap.size w w' := by
 have HN := Lib.hid hn
 have HS := Lib.hid hs
 have HT := Lib.hid ht
 clear hn hs ht
 obtain ⟨V0, hV⟩ : ∃ V, ckOf h l = V := ⟨_, rfl⟩
 rw [hV]
 have HV := Lib.hid hV
 clear hV
 go_enter Tryz.func87, Tryz.ntmps87
 go_wp2_with fail
 refine (of_any w h HT.out).mono ?_
 rintro e w0 ⟨rfl, b0⟩
 unfold sgVal
 generalize nmB (hI h) = a0
 generalize wtB (hI h) = a1
 generalize msU (hI h) = a2
 generalize asI (hI h) = a3
 generalize adB (hI h) = a4
 have B0 := Lib.hid (below_alloc b0 (.cells #[.string a0, .string a1, .int .u64 a2, .int .i64 a3, .bool a4] 222))
 clear b0
 by_cases h7 : hI h < 7
 · rw [show decide (hI h < 7) = true from decide_eq_true h7]
   have H7 := Lib.hid h7
   clear h7
   go_wp2_with fail
   generalize w0.alloc (.cells #[.string a0, .string a1, .int .u64 a2, .int .i64 a3, .bool a4] 222) = w0 at B0 ⊢
   refine (args_any w0 h (HT.out.below B0.out)).mono ?_
   rintro e w1 ⟨v, rfl, hown, b1⟩
   obtain ⟨A1, c1, rfl, hA1, _, hsl, _⟩ := own_form hown
   have HS1 := Lib.hid hsl
   have B1 := Lib.hid (B0.out.trans (b1.mono B0.out.size))
   have hW3 := argsL_len (hI h)
   clear hown hsl b1 B0
   obtain ⟨m, hmm⟩ : ∃ m, (argsL (hI h)).length = m := ⟨_, rfl⟩
   rw [hmm] at hW3 ⊢
   have HM := Lib.hid hmm
   clear hmm
   by_cases hmn : m = n
   · subst hmn
     obtain ⟨V, hV1⟩ : ∃ V, ckL (argsL (hI h)) l = V := ⟨_, rfl⟩
     have HV1 := Lib.hid hV1
     have HVV := Lib.hid (show V0 = V by rw [← HV.out, ← hV1]; unfold ckOf; rw [if_pos H7.out, if_pos (by rw [HM.out, HN.out])])
     clear hV1
     go_wp2_with fail
     go_loopw [26] (fun i wr => ∃ k : Nat, k ≤ m ∧ i = .int .i64 k ∧ Below w1.heap.size w1 wr ∧ ckL ((argsL (hI h)).drop k) (l.drop k) = V) (fun i _ => m - (intOf i).toNat)
     case atStart => exact ⟨0, Nat.zero_le _, rfl, Below.refl _ _, HV1.out⟩
     case round =>
      obtain ⟨k, hk, rfl, hb, hck⟩ := hrel
      have BB := Lib.hid hb
      have HCK := Lib.hid hck
      clear hb hck
      by_cases hlt : k < m
      · have g1 : (k : Int) < (m : Int) := by omega
        have hk1 : k < (argsL (hI h)).length := by rw [HM.out]; exact hlt
        have hk2 : k < l.length := by rw [← HN.out]; exact hlt
        obtain ⟨b, o, rfl, hb1, hc1⟩ := tys_at HS1.out (by omega)
        obtain ⟨b', o', rfl, hb2, hc2⟩ := tys_at HS.out (by omega)
        have f0 : wr.cell? ⟨b, o + k * 4, none⟩ = some ((tyc ((argsL (hI h)).getD k ty0)).getD 0 undef) := (BB.out.cell hb1).trans (hc1 k hk1 0 (by omega))
        have f1 : wr.cell? ⟨b, o + k * 4 + 1, none⟩ = some ((tyc ((argsL (hI h)).getD k ty0)).getD 1 undef) := (BB.out.cell hb1).trans (hc1 k hk1 1 (by omega))
        have f2 : wr.cell? ⟨b, o + k * 4 + 2, none⟩ = some ((tyc ((argsL (hI h)).getD k ty0)).getD 2 undef) := (BB.out.cell hb1).trans (hc1 k hk1 2 (by omega))
        have f3 : wr.cell? ⟨b, o + k * 4 + 3, none⟩ = some ((tyc ((argsL (hI h)).getD k ty0)).getD 3 undef) := (BB.out.cell hb1).trans (hc1 k hk1 3 (by omega))
        have e0 : wr.cell? ⟨b', o' + k * 4, none⟩ = some ((tyc (l.getD k ty0)).getD 0 undef) := (BB.out.cell (Nat.lt_of_lt_of_le hb2 B1.out.size)).trans ((B1.out.cell hb2).trans (hc2 k hk2 0 (by omega)))
        have e1 : wr.cell? ⟨b', o' + k * 4 + 1, none⟩ = some ((tyc (l.getD k ty0)).getD 1 undef) := (BB.out.cell (Nat.lt_of_lt_of_le hb2 B1.out.size)).trans ((B1.out.cell hb2).trans (hc2 k hk2 1 (by omega)))
        have e2 : wr.cell? ⟨b', o' + k * 4 + 2, none⟩ = some ((tyc (l.getD k ty0)).getD 2 undef) := (BB.out.cell (Nat.lt_of_lt_of_le hb2 B1.out.size)).trans ((B1.out.cell hb2).trans (hc2 k hk2 2 (by omega)))
        have HST := Lib.hid (ckL_at (argsL (hI h)) l k hk1 hk2)
        clear hc1 hc2 hk1 hk2
        generalize (argsL (hI h)).getD k ty0 = t at f0 f1 f2 f3 HST
        generalize l.getD k ty0 = a at e0 e1 e2 HST
        obtain ⟨tk, tl, th, tm⟩ := t
        obtain ⟨ak, al, ah, am⟩ := a
        replace f0 : wr.cell? ⟨b, o + k * 4, none⟩ = some (.int .i64 tk) := f0
        replace f1 : wr.cell? ⟨b, o + k * 4 + 1, none⟩ = some (.int .u64 tl) := f1
        replace f2 : wr.cell? ⟨b, o + k * 4 + 2, none⟩ = some (.int .u64 th) := f2
        replace f3 : wr.cell? ⟨b, o + k * 4 + 3, none⟩ = some (.int .i64 tm) := f3
        replace e0 : wr.cell? ⟨b', o' + k * 4, none⟩ = some (.int .i64 ak) := e0
        replace e1 : wr.cell? ⟨b', o' + k * 4 + 1, none⟩ = some (.int .u64 al) := e1
        replace e2 : wr.cell? ⟨b', o' + k * 4 + 2, none⟩ = some (.int .u64 ah) := e2
        have HST2 : Hid (V = if ak ≠ tk then 33 else if tk = 1 ∧ withinB al ah tl th = false then 35 else ckL ((argsL (hI h)).drop (k + 1)) (l.drop (k + 1))) := Lib.hid (HCK.out.symm.trans HST.out)
        clear HST
        have OX := Lib.hid (Ob.fresh wr 134 [.int .i64 tk, .int .u64 tl, .int .u64 th, .int .i64 tm])
        have BX := Lib.hid (below_alloc BB.out (.cells #[.int .i64 tk, .int .u64 tl, .int .u64 th, .int .i64 tm] 134))
        have hal := below_alloc (Below.refl wr.heap.size wr) (.cells #[.int .i64 tk, .int .u64 tl, .int .u64 th, .int .i64 tm] 134)
        have x0 := (hal.cell (cell_lt e0)).trans e0
        have x1 := (hal.cell (cell_lt e1)).trans e1
        have x2 := (hal.cell (cell_lt e2)).trans e2
        clear hal hb1 hb2
        go_upto_region 10 with fail
        generalize wr.alloc (.cells #[.int .i64 tk, .int .u64 tl, .int .u64 th, .int .i64 tm] 134) = wx at OX BX x0 x1 x2 ⊢
        generalize wr.heap.size = q at OX ⊢
        clear f0 f1 f2 f3 e0 e1 e2
        have q0 := OX.out.c0
        have q1 := OX.out.c1
        have q2 := OX.out.c2
        by_cases hkk : ak = tk
        · subst hkk
          go_wp2_with fail
          go_quiet (fail)
          by_cases hk1 : ak = 1
          · subst hk1
            have HWA := Lib.hid (fun w => within_any w al ah tl th)
            unfold spVal at HWA
            obtain ⟨wb, hwb⟩ : ∃ b, withinB al ah tl th = b := ⟨_, rfl⟩
            rw [hwb] at HST2 HWA
            clear hwb
            have HST3 := Lib.hid (show V = if wb = false then 35 else ckL ((argsL (hI h)).drop (k + 1)) (l.drop (k + 1)) by simpa using HST2.out)
            clear HST2
            go_upto_region 12 with fail
            have BY := Lib.hid (below_drewN BX.out nq)
            have OY := Lib.hid (OX.out.drewN nq)
            have y1 : (wx.drewN nq).cell? ⟨b', o' + k * 4 + 1, none⟩ = some (.int .u64 al) := x1
            have y2 : (wx.drewN nq).cell? ⟨b', o' + k * 4 + 2, none⟩ = some (.int .u64 ah) := x2
            generalize wx.drewN nq = wy at BY OY y1 y2 ⊢
            clear BX OX x0 x1 x2 q0 q1 q2
            have q0 := OY.out.c0
            have q1 := OY.out.c1
            have q2 := OY.out.c2
            have Y1 := Lib.hid y1
            have Y2 := Lib.hid y2
            go_region_held3 (fun w' => w'.cell? ⟨b', o' + k * 4 + 1, none⟩ = some (.int .u64 al) ∧ w'.cell? ⟨b', o' + k * 4 + 2, none⟩ = some (.int .u64 ah) ∧ w'.cell? ⟨q, 0, none⟩ = some (.int .i64 1) ∧ w'.cell? ⟨q, 1, none⟩ = some (.int .u64 tl) ∧ w'.cell? ⟨q, 2, none⟩ = some (.int .u64 th)) (go_keep)
             (first
              | (go_at_call 121
                 refine (HWA.out wy.drew).mono ?_
                 rintro e w5 ⟨rfl, b5⟩
                 have BZ := Lib.hid ((below_drewN BY.out 1).trans (b5.mono (below_drewN BY.out 1).size))
                 have z1 : w5.cell? ⟨b', o' + k * 4 + 1, none⟩ = some (.int .u64 al) := (b5.cell (cell_lt Y1.out)).trans Y1.out
                 have z2 : w5.cell? ⟨b', o' + k * 4 + 2, none⟩ = some (.int .u64 ah) := (b5.cell (cell_lt Y2.out)).trans Y2.out
                 have O5 := Lib.hid (OY.out.drew.below b5 OY.out.drew.lt)
                 have d0 := O5.out.c0
                 have d1 := O5.out.c1
                 have d2 := O5.out.c2
                 clear b5))
            clear z1 z2 d0 d1 d2 O5 y1 y2 q0 q1 q2
            cases wb
            · have HR := Lib.hid (show V0 = 35 by rw [HVV.out, HST3.out, if_pos rfl])
              go_wp2_with fail
              go_ret
              exact ⟨by rw [HR.out]; rfl, B1.out.trans (BZ.out.mono B1.out.size)⟩
            have HST4 := Lib.hid (show ckL ((argsL (hI h)).drop (k + 1)) (l.drop (k + 1)) = V by rw [HST3.out, if_neg (by decide)])
            go_wp2_with fail
            go_roundw
            case rel => exact ⟨k + 1, by omega, by go_num, BZ.out, HST4.out⟩
            case measure => simp [intOf]; omega
          have hk1' : (ak == 1) = false := by simpa using hk1
          have HST3 := Lib.hid (show ckL ((argsL (hI h)).drop (k + 1)) (l.drop (k + 1)) = V by rw [HST2.out, if_neg (fun h => h rfl), if_neg (fun h => hk1 h.1)])
          go_wp2_with fail
          go_quiet (fail)
          go_wp2_with fail
          go_roundw
          case rel => exact ⟨k + 1, by omega, by go_num, below_drewN BX.out _, HST3.out⟩
          case measure => simp [intOf]; omega
        have hkk' : (tk == ak) = false := by simp; exact fun e => hkk e.symm
        have HR := Lib.hid (show V0 = 33 by rw [HVV.out, HST2.out, if_pos hkk])
        go_wp2_with fail
        go_quiet (fail)
        go_wp2_with fail
        go_ret
        exact ⟨by rw [HR.out]; rfl, B1.out.trans (below_drewN (BX.out.mono B1.out.size) _)⟩
      have g1 : ¬ (k : Int) < (m : Int) := by omega
      have HR := Lib.hid (show V0 = 0 by rw [HVV.out, ← HCK.out, List.drop_of_length_le (by rw [HM.out]; omega)]; rfl)
      go_wp2_with fail
      go_ret
      exact ⟨by rw [HR.out]; rfl, B1.out.trans (BB.out.mono B1.out.size)⟩
   have hmn' : ((m : Int) == (n : Int)) = false := by simp; omega
   have HR := Lib.hid (show V0 = 2 by rw [← HV.out]; unfold ckOf; rw [if_pos H7.out, if_neg (by rw [HM.out, ← HN.out]; exact hmn)])
   go_wp2_with fail
   go_ret
   exact ⟨by rw [HR.out]; rfl, B1.out⟩
 rw [show decide (hI h < 7) = false from decide_eq_false h7]
 have HR := Lib.hid (show V0 = 34 by rw [← HV.out]; unfold ckOf; rw [if_neg h7])
 clear h7
 go_wp2_with fail
 go_ret
 exact ⟨by rw [HR.out]; rfl, B0.out⟩

end Go.Proofs.YtikkmkomlajnfaaGreatDoor.Sg
end

section
namespace Go.Proofs.YtikkmkomlajnfaaGreatDoor.Sc
set_option maxHeartbeats 400000
open Go.RowKit

attribute [local go_sem] uv_nonneg uv_wrap uv_add uv_sub uv_add1 uv_sub1

def zz : Nat → BitVec 64 := fun _ => 0#64
/-- the result, and what has become of block g -/
def Made (w : World) (g : Nat) (t : TypeId) (v : Value) (cs : List Value) (e : Ending) (w' : World) : Prop := e = .returned v ∧ Ob w' g t cs ∧ Only w w' g

theorem new_any (w : World) :
 Calls Tryz.prog 31 #[] w fun e w' => e = .returned (.pointer (some ⟨w.heap.size, 0, none⟩)) ∧ w.alloc (.cells (arr 16 zz ++ (arr 16 zz ++ [])).toArray 146) = w' := by
 go_enter Tryz.func31, Tryz.ntmps31
 go_wp2
 go_ret
 exact ⟨rfl, rfl⟩

theorem mark_in (g o j : Nat) (t : TypeId) (pre post : List Value) (ks : Nat → BitVec 64) (hj : j < 16) (ho : o = pre.length) (w : World) (hob : Ob w g t (pre ++ (arr 16 ks ++ post))) :
 Calls Tryz.prog 95 #[.pointer (some ⟨g, o, none⟩), .int .i64 j] w
  (Made w g t (.tuple #[.int .u64 (uv (ks j + 1#64)), .int .i64 0]) (pre ++ (arr 16 (upd ks j (ks j + 1#64)) ++ post))) := by
 have f1 : w.cell? ⟨g, o + j, none⟩ = some (.int .u64 (uv (ks j))) := by rw [ho]; exact hob.at_ j hj
 have f2 : w.frozen? ⟨g, o + j, none⟩ = false := hob.frozen _
 have HO := Lib.hid hob
 have HP := Lib.hid ho
 clear hob ho
 go_enter Tryz.func95, Tryz.ntmps95
 go_wp2
 go_region
 all_goals go_wp2
 all_goals go_ret2
 refine ⟨rfl, ?_, ((Only.refl _ _).setCell rfl _).drew⟩
 have h := (HO.out.put j hj (ks j + 1#64)).drew
 rw [← HP.out] at h
 exact h

theorem load_in (g o j : Nat) (t : TypeId) (pre post : List Value) (ks : Nat → BitVec 64) (hj : j < 16) (ho : o = pre.length) (w : World) (hob : Ob w g t (pre ++ (arr 16 ks ++ post))) :
 Calls Tryz.prog 97 #[.pointer (some ⟨g, o, none⟩), .int .i64 j] w fun e w' => e = .returned (.tuple #[.int .u64 (uv (ks j)), .int .i64 0]) ∧ w = w' := by
 have f1 : w.cell? ⟨g, o + j, none⟩ = some (.int .u64 (uv (ks j))) := by rw [ho]; exact hob.at_ j hj
 clear hob ho
 go_enter Tryz.func97, Tryz.ntmps97
 go_wp2
 go_ret2
 exact ⟨rfl, rfl⟩

theorem store_in (g o j : Nat) (t : TypeId) (pre post : List Value) (ks : Nat → BitVec 64) (x : BitVec 64) (hj : j < 16) (ho : o = pre.length) (w : World) (hob : Ob w g t (pre ++ (arr 16 ks ++ post))) :
 Calls Tryz.prog 98 #[.pointer (some ⟨g, o, none⟩), .int .i64 j, .int .u64 (uv x)] w
  (Made w g t (.int .i64 0) (pre ++ (arr 16 (upd ks j x) ++ post))) := by
 have f1 : w.cell? ⟨g, o + j, none⟩ = some (.int .u64 (uv (ks j))) := by rw [ho]; exact hob.at_ j hj
 have f2 : w.frozen? ⟨g, o + j, none⟩ = false := hob.frozen _
 have HO := Lib.hid hob
 have HP := Lib.hid ho
 clear hob ho
 go_enter Tryz.func98, Tryz.ntmps98
 go_wp2
 go_ret
 refine ⟨rfl, ?_, (Only.refl _ _).setCell rfl _⟩
 have h := HO.out.put j hj x
 rw [← HP.out] at h
 exact h

/-- a scratch, or nil: its block, its words, its counters -/
abbrev Item := Option (Nat × (Nat → BitVec 64) × (Nat → BitVec 64))
def ScrAt (w : World) (g : Nat) (ws ks : Nat → BitVec 64) : Prop := Ob w g 146 (arr 16 ws ++ (arr 16 ks ++ []))
def ItemAt (w : World) : Item → Prop
 | none => True
 | some x => ScrAt w x.1 x.2.1 x.2.2
theorem u64_info : (Tryz.prog.info? 26).map (fun i => (i.zero, i.size, i.bytes)) = some (some (.int .u64 0), 1, 8) := by kernel_rfl

end Go.Proofs.YtikkmkomlajnfaaGreatDoor.Sc
end

section
namespace Go.Proofs.YtikkmkomlajnfaaGreatDoor.Sc
open Go.RowKit

attribute [local go_sem] uv_nonneg uv_wrap uv_add uv_sub uv_add1 uv_sub1

theorem ScrAt.fresh (w : World) : ScrAt (w.alloc (.cells (arr 16 zz ++ (arr 16 zz ++ [])).toArray 146)) w.heap.size zz zz := Ob.fresh w _ _

theorem ItemAt.below {w w' : World} {x : Item} (h : ItemAt w x) (hb : Below w.heap.size w w') : ItemAt w' x := by
 cases x with
 | none => trivial
 | some y => exact Ob.below h hb (Ob.lt h)

end Go.Proofs.YtikkmkomlajnfaaGreatDoor.Sc
end

section
namespace Go.Proofs.YtikkmkomlajnfaaGreatDoor
set_option maxHeartbeats 1000000
open Go.RowKit

attribute [local go_sem] uv_nonneg uv_wrap uv_add uv_sub uv_mul uv_add1 uv_sub1 uv_and uv_or uv_xor uv_andNot uv_and1 uv_not uv_notMax u64_signed uv_shr uv_shr1 uv_shl uv_shr63 uv_shl1 uv_1shl uv_tdiv uv_tdiv2 uv_tmod uv_shlMin uv_shrMin uv_div uv_mod

theorem ret_two {a b : Int} {c d : Bool} (h : a = b) (h' : c = d) : Ending.returned (.tuple #[.int .u64 a, .bool c]) = .returned (.tuple #[.int .u64 b, .bool d]) := by rw [h, h']

theorem ret_bools {a b c d : Bool} (h : a = b) (h' : c = d) : Ending.returned (.tuple #[.bool a, .bool c]) = .returned (.tuple #[.bool b, .bool d]) := by rw [h, h']

theorem do_any (op : Int) (a b : BitVec 64) (w : World) :
 Calls Tryz.prog 99 #[.int .i64 op, .int .u64 (uv a), .int .u64 (uv b)] w fun e w' => e = .returned (.tuple #[.int .u64 (uv (AM.doV op a b)), .bool (AM.doOk op)]) ∧ w = w' := by
 have hsig := u64_signed
 by_cases hb : b = 0#64
 · have HB := Lib.hid hb
   have f1 := uv_beq0 hb
   clear hb
   rcases AM.op_cases op with rfl | rfl | rfl | rfl | rfl | rfl | rfl | rfl | rfl | rfl | h
   case inr.inr.inr.inr.inr.inr.inr.inr.inr.inr =>
    go_enter Tryz.func99, Tryz.ntmps99
    go_wp2
    go_ret2
    exact ⟨ret_two (by rw [AM.doV_out h]; rfl) (by rw [AM.doOk_out h]), rfl⟩
   all_goals
    go_enter Tryz.func99, Tryz.ntmps99
    go_wp2
    go_ret2
    first
     | exact ⟨rfl, rfl⟩
     | exact ⟨ret_two (by rw [HB.out]; simp [AM.doV]; rfl) rfl, rfl⟩
     | exact ⟨ret_two (by rw [HB.out]; simp [AM.doV]) rfl, rfl⟩
 have f1 := uv_nbeq0 hb
 have f2 := uv_ne0 hb
 clear hb
 rcases AM.op_cases op with rfl | rfl | rfl | rfl | rfl | rfl | rfl | rfl | rfl | rfl | h
 case inr.inr.inr.inr.inr.inr.inr.inr.inr.inr =>
  go_enter Tryz.func99, Tryz.ntmps99
  go_wp2
  go_ret2
  exact ⟨ret_two (by rw [AM.doV_out h]; rfl) (by rw [AM.doOk_out h]), rfl⟩
 all_goals
  go_enter Tryz.func99, Tryz.ntmps99
  go_wp2
  go_ret2
  exact ⟨rfl, rfl⟩

theorem hd_any (op : Int) (a b : BitVec 64) (w : World) :
 Calls Tryz.prog 100 #[.int .i64 op, .int .u64 (uv a), .int .u64 (uv b)] w fun e w' => e = .returned (.tuple #[.bool (AM.hdV op a b), .bool (AM.hdOk op)]) ∧ w = w' := by
 have h1 := uv_beq a b
 have h2 := uv_bne a b
 have h3 := uv_dlt a b
 have h4 := uv_dle b a
 rcases AM.hop_cases op with rfl | rfl | rfl | rfl | h
 case inr.inr.inr.inr =>
  go_enter Tryz.func100, Tryz.ntmps100
  go_wp2
  go_ret2
  exact ⟨ret_bools (by rw [AM.hdV_out h]) (by rw [AM.hdOk_out h]), rfl⟩
 all_goals
  go_enter Tryz.func100, Tryz.ntmps100
  go_wp2
  go_ret2
  first
   | exact ⟨rfl, rfl⟩
   | exact ⟨ret_bools (by simp [h1, h2, h3, h4, AM.hdV]) rfl, rfl⟩

end Go.Proofs.YtikkmkomlajnfaaGreatDoor
end
