/-
  Layer 8: Args. Conditions: those of each theorem.
-/
import Derived.Test.YthmfenagdoefcaaDoorSigsV
import Derived.Lib.OthersKept
namespace Go.Proofs.YthmfenagdoefcaaDoor
open Go.RowKit

theorem Tab.tch {S : Nat → Prop} {w w' : World} (h : Tab w) (k : Tch S w w') (hn : ¬ S 0) : Tab w' := by
  have hl := h.lt
  obtain ⟨t, fr, h⟩ := h
  exact ⟨t, fr, (k.block _ hl hn).trans h⟩

def tys (l : List TypeV) : List Value := l.flatMap tyc
theorem tys_length (l : List TypeV) : (tys l).length = l.length * 4 := by
  induction l with
  | nil => rfl
  | cons f r ih => simp only [tys, List.flatMap_cons, List.length_append, List.length_cons] at ih ⊢; rw [ih, show (tyc f).length = 4 from rfl]; omega
theorem tys_app (a b : List TypeV) : tys (a ++ b) = tys a ++ tys b := List.flatMap_append
theorem tys_one (t : TypeV) : tys [t] = tyc t := by simp [tys]
theorem tys_get : ∀ (l : List TypeV) (i j : Nat), i < l.length → j < 4 → (tys l)[i * 4 + j]? = (tyc (l.getD i ty0))[j]?
  | f :: r, 0, j, _, hj => by
    simp only [tys, List.flatMap_cons, Nat.zero_mul, Nat.zero_add]
    rw [List.getElem?_append_left hj]
    rfl
  | f :: r, i + 1, j, hi, hj => by
    simp only [tys, List.flatMap_cons]
    have h5 : (tyc f).length = 4 := rfl
    rw [List.getElem?_append_right (by rw [h5]; omega), h5, show (i + 1) * 4 + j - 4 = i * 4 + j from by omega]
    exact tys_get r i j (by simpa using hi) hj
theorem tyc_one (t : TypeV) : ∀ u ∈ tyc t, u.oneCell' = true := by
  intro u hu
  simp only [tyc, List.mem_cons, List.mem_nil_iff, or_false] at hu
  rcases hu with rfl | rfl | rfl | rfl <;> rfl
theorem tys_allone (l : List TypeV) : ∀ u ∈ tys l, u.oneCell' = true := by
  intro u hu
  obtain ⟨t, _, h⟩ := List.mem_flatMap.1 hu
  exact tyc_one t u h
theorem type_info : (Tryd.prog.info? 31).map (fun i => (i.zero, i.size, i.bytes)) = some (some (.agg #[.int .i64 0, .int .u64 0, .int .u64 0, .int .i64 0]), 4, 32) := by kernel_rfl

/-- what a letter wants -/
def runeT (c : Nat) : TypeV := if c = 104 then ⟨2, 0, 0, 0⟩ else if c = 115 then ⟨1, 0, 15, 0⟩ else ⟨1, 0, 18446744073709551615, 0⟩
def wantL (s : ByteArray) (k : Nat) : List TypeV := (s.data.toList.take k).map fun b => runeT b.toNat
theorem wantL_succ (s : ByteArray) (k : Nat) (h : k < s.size) : wantL s (k + 1) = wantL s k ++ [runeT (s[k]'h).toNat] := by
  unfold wantL
  have hl : k < s.data.toList.length := by simpa using h
  rw [List.take_succ_eq_append_getElem hl, List.map_append]
  rfl
theorem wantL_length (s : ByteArray) (k : Nat) (h : k ≤ s.size) : (wantL s k).length = k := by
  unfold wantL
  rw [List.length_map, List.length_take]
  have h2 : k ≤ s.data.toList.length := by simpa using h
  omega
/-- what a helper wants -/
def argsL (y : Nat) : List TypeV := wantL (wtB y) (wtB y).size
theorem wtB_ascii (y : Nat) (i : Nat) (h : i < (wtB y).size) : ((wtB y)[i]'h).toNat < 128 := by
  have hall : ∀ y, y < 8 → (wtB y).data.toList.all (fun b => decide (b.toNat < 128)) = true := by decide
  have h8 : ∀ y, 7 ≤ y → wtB y = ⟨#[]⟩ := fun y hy => by
    match y, hy with
    | y + 7, _ => rfl
  by_cases hy : y < 8
  · have h1 := List.all_eq_true.1 (hall y hy) ((wtB y)[i]'h) (by
      have hl : i < (wtB y).data.toList.length := by simpa using h
      exact List.getElem_mem hl)
    simpa using h1
  · rw [h8 y (by omega)] at h
    exact absurd h (by simp [ByteArray.size])
theorem wtB_size (y : Nat) : (wtB y).size ≤ 3 := by
  match y with
  | 0 => decide
  | 1 => decide
  | 2 => decide
  | 3 => decide
  | 4 => decide
  | 5 => decide
  | 6 => decide
  | y + 7 => exact (by decide : (⟨#[]⟩ : ByteArray).size ≤ 3)

/-- an iterator is no row -/
theorem own_ne_iter {w : World} {B : Nat} {e : TypeId} {size : Nat} {v : Value} {n : Nat} {xs : List Value} {k : Nat} {s : ByteArray} {pos : Nat} (h : w.ownsRow B e size v n xs) (hk : w.heap[k]? = some (.stringIter s pos)) : v.ownBlock ≠ some k := by
  intro hv
  rcases h.2 with ⟨rfl, _⟩ | ⟨g', cap, cur, rfl, _, hg, _⟩
  · cases hv
  · injection hv with hv
    subst hv
    rw [hg] at hk
    cases hk
theorem own_iterAt {w : World} {B : Nat} {e : TypeId} {size : Nat} {v : Value} {n : Nat} {xs : List Value} {k : Nat} {s : ByteArray} {pos : Nat} (h : w.ownsRow B e size v n xs) (hk : w.heap[k]? = some (.stringIter s pos)) (pos' : Nat) : (w.iterAt k s pos').ownsRow B e size v n xs := by
  have hne := own_ne_iter h hk
  refine ⟨h.1, ?_⟩
  rcases h.2 with h0 | ⟨g, cap, cur, hv, hb, hg, rest⟩
  · exact .inl h0
  · refine .inr ⟨g, cap, cur, hv, hb, (Lib.iterAt_other w k g s pos' fun e => ?_).trans hg, rest⟩
    subst hv e
    exact hne rfl

set_option maxRecDepth 100000 in
set_option maxHeartbeats 4000000 in
theorem args_any (w : World) (h : Int) (ht : Tab w) :
    Calls Tryd.prog 9 #[.int .i64 h] w fun e w' => ∃ v, e = .returned v ∧ w'.ownsRow w.heap.size 31 4 v (argsL (hI h)).length (tys (argsL (hI h))) ∧ Below w.heap.size w w' := by
  obtain ⟨Z, hZ⟩ : ∃ Z, argsL (hI h) = Z := ⟨_, rfl⟩
  rw [hZ]
  have HZ := Lib.hid hZ
  have HT := Lib.hid ht
  clear hZ ht
  obtain ⟨i0, hi0, hz0, hz1, hz2⟩ := info_parts type_info
  go_enter Tryd.func9, Tryd.ntmps9
  go_wp2_with fail
  refine (of_any w h HT.out).mono ?_
  rintro e w1 ⟨rfl, b1⟩
  unfold sgVal
  unfold argsL at HZ
  have HAS := Lib.hid (wtB_ascii (hI h))
  have HSZ := Lib.hid (wtB_size (hI h))
  generalize nmB (hI h) = a0
  generalize wtB (hI h) = s at HZ HAS HSZ ⊢
  generalize msU (hI h) = a2
  generalize asI (hI h) = a3
  generalize adB (hI h) = a4
  generalize decide (hI h < 7) = ok
  have HB2 := Lib.hid ((below_alloc b1 (.cells #[.string a0, .string s, .int .u64 a2, .int .i64 a3, .bool a4] 53)).alloc (below_alloc b1 (.cells #[.string a0, .string s, .int .u64 a2, .int .i64 a3, .bool a4] 53)).size (.stringIter s 0))
  have HK0 : Hid (((w1.alloc (.cells #[.string a0, .string s, .int .u64 a2, .int .i64 a3, .bool a4] 53)).iter s 0).heap[w1.heap.size + 1]? = some (.stringIter s 0)) := Lib.hid (by
    have h5 := World.iter_heap (w1.alloc (.cells #[.string a0, .string s, .int .u64 a2, .int .i64 a3, .bool a4] 53)) s 0
    simpa using h5)
  have hbs : w.heap.size ≤ w1.heap.size + 1 := by have := b1.size; omega
  have HBS := Lib.hid hbs
  clear b1 hbs
  have HB3 : Hid (Below w.heap.size w ((w1.alloc (.cells #[.string a0, .string s, .int .u64 a2, .int .i64 a3, .bool a4] 53)).iter s 0)) := HB2
  clear HB2
  go_wp2_with fail
  generalize (w1.alloc (.cells #[.string a0, .string s, .int .u64 a2, .int .i64 a3, .bool a4] 53)).iter s 0 = wz at HB3 HK0 ⊢
  generalize hbi : w1.heap.size + 1 = bi at HK0 HBS ⊢
  clear hbi
  go_loopw [5] (fun u wr => ∃ (pos : Nat), pos ≤ s.size ∧ wr.heap[bi]? = some (.stringIter s pos) ∧ wr.ownsRow w.heap.size 31 4 u pos (tys (wantL s pos)) ∧ Below w.heap.size w wr) (fun _ wr => s.size - wr.iterPos bi)
  case atStart => exact ⟨0, Nat.zero_le _, HK0.out, World.ownsRow_nil _ _ _ _, HB3.out⟩
  case round =>
    obtain ⟨pos, hps, hk, hown, hb⟩ := hrel
    have HK := Lib.hid hk
    have HO := Lib.hid hown
    have HB := Lib.hid hb
    have HMU : Hid (wr.iterPos bi = pos) := Lib.hid (by simp [World.iterPos, hk])
    clear hk hown hb HK0 HB3
    by_cases hp : pos < s.size
    · have hnext := fun ty => Lib.run_next_ascii_at (P := Tryd.prog) wr bi s pos ty HK.out hp (HAS.out pos hp)
      have W1K := Lib.hid (Lib.iterAt_heap wr bi s pos (pos + 1) HK.out)
      have W1O := Lib.hid (own_iterAt HO.out HK.out (pos + 1))
      have W1B := Lib.hid (Lib.below_iterAt HB.out HBS.out s (pos + 1))
      have HSU := Lib.hid (wantL_succ s pos hp)
      generalize wr.iterAt bi s (pos + 1) = W1 at hnext W1K W1O W1B
      generalize hc : (s[pos]'hp).toNat = c at hnext HSU
      clear hc
      by_cases h104 : c = 104
      · subst h104
        have HC := Lib.hid (show runeT 104 = ⟨2, 0, 0, 0⟩ from rfl)
        go_wp2_with
        (at_builtin
         refine wpList_append_in _ rfl (.tmp 26) (.tmp 28) _ rfl (below_alloc W1B.out _) 31 i0 _ 4 32 Tryd.underlying23 hi0 hz0 hz1 hz2 rfl (by omega) u5 pos (tys (wantL s pos)) rfl (World.ownsRow.alloc W1O.out _)
           (some ⟨W1.heap.size, 0, none⟩) 1 1 (tyc ⟨2, 0, 0, 0⟩) rfl rfl (Sl.fresh W1 (tyc ⟨2, 0, 0, 0⟩).toArray 31 (0, 0)) (tyc_one _) (by have := HSZ.out; omega) (by omega) ?_
         intro v2 w2 hown hb2 g1 g2
         have HR := Lib.hid hown
         have HB4 := Lib.hid hb2
         have HK4 : Hid (w2.heap[bi]? = some (.stringIter s (pos + 1))) := Lib.hid ((g1.block bi (by have := W1K.out; simp; have h9 := (Array.getElem?_eq_some_iff.1 this).1; omega) (fun e => own_ne_iter W1O.out W1K.out e.symm)).trans ((heap_alloc_old _ _ ((Array.getElem?_eq_some_iff.1 W1K.out).1)).trans W1K.out))
         clear hown hb2 g1 g2)
        go_roundw
        case rel => exact ⟨pos + 1, by omega, HK4.out, by rw [HSU.out, HC.out, tys_app, tys_one]; exact HR.out, HB4.out⟩
        case measure => rw [HMU.out]; simp [World.iterPos, HK4.out]; omega
      · have h104' : ((c : Int) == 104) = false := by simp; omega
        by_cases h115 : c = 115
        · subst h115
          have HC := Lib.hid (show runeT 115 = ⟨1, 0, 15, 0⟩ from rfl)
          go_wp2_with fail
          refine (number_any W1 _).mono ?_
          rintro e wn ⟨rfl, bn⟩
          have wnB := Lib.hid (W1B.out.trans (bn.mono W1B.out.size))
          have wnK := Lib.hid ((bn.block _ ((Array.getElem?_eq_some_iff.1 W1K.out).1)).trans W1K.out)
          have wnO := Lib.hid (own_tch (S := fun _ => False) W1O.out (Tch.of_below bn) fun _ _ => id)
          clear bn
          unfold tyVal
          go_wp2_with
          (at_builtin
           refine wpList_append_in _ rfl (.tmp 32) (.tmp 34) _ rfl (below_alloc wnB.out _) 31 i0 _ 4 32 Tryd.underlying23 hi0 hz0 hz1 hz2 rfl (by omega) u5 pos (tys (wantL s pos)) rfl (World.ownsRow.alloc wnO.out _)
             (some ⟨wn.heap.size, 0, none⟩) 1 1 (tyc ⟨1, 0, 15, 0⟩) rfl rfl (Sl.fresh wn (tyc ⟨1, 0, 15, 0⟩).toArray 31 (0, 0)) (tyc_one _) (by have := HSZ.out; omega) (by omega) ?_
           intro v2 w2 hown hb2 g1 g2
           have HR := Lib.hid hown
           have HB4 := Lib.hid hb2
           have HK4 : Hid (w2.heap[bi]? = some (.stringIter s (pos + 1))) := Lib.hid ((g1.block bi (by have := wnK.out; simp; have h9 := (Array.getElem?_eq_some_iff.1 this).1; omega) (fun e => own_ne_iter wnO.out wnK.out e.symm)).trans ((heap_alloc_old _ _ ((Array.getElem?_eq_some_iff.1 wnK.out).1)).trans wnK.out))
           clear hown hb2 g1 g2)
          go_roundw
          case rel => exact ⟨pos + 1, by omega, HK4.out, by rw [HSU.out, HC.out, tys_app, tys_one]; exact HR.out, HB4.out⟩
          case measure => rw [HMU.out]; simp [World.iterPos, HK4.out]; omega
        · have h115' : ((c : Int) == 115) = false := by simp; omega
          have HC := Lib.hid (show runeT c = ⟨1, 0, 18446744073709551615, 0⟩ by unfold runeT; rw [if_neg h104, if_neg h115])
          go_wp2_with fail
          refine (number_any W1 _).mono ?_
          rintro e wn ⟨rfl, bn⟩
          have wnB := Lib.hid (W1B.out.trans (bn.mono W1B.out.size))
          have wnK := Lib.hid ((bn.block _ ((Array.getElem?_eq_some_iff.1 W1K.out).1)).trans W1K.out)
          have wnO := Lib.hid (own_tch (S := fun _ => False) W1O.out (Tch.of_below bn) fun _ _ => id)
          clear bn
          unfold tyVal
          go_wp2_with
          (at_builtin
           refine wpList_append_in _ rfl (.tmp 20) (.tmp 22) _ rfl (below_alloc wnB.out _) 31 i0 _ 4 32 Tryd.underlying23 hi0 hz0 hz1 hz2 rfl (by omega) u5 pos (tys (wantL s pos)) rfl (World.ownsRow.alloc wnO.out _)
             (some ⟨wn.heap.size, 0, none⟩) 1 1 (tyc ⟨1, 0, 18446744073709551615, 0⟩) rfl rfl (Sl.fresh wn (tyc ⟨1, 0, 18446744073709551615, 0⟩).toArray 31 (0, 0)) (tyc_one _) (by have := HSZ.out; omega) (by omega) ?_
           intro v2 w2 hown hb2 g1 g2
           have HR := Lib.hid hown
           have HB4 := Lib.hid hb2
           have HK4 : Hid (w2.heap[bi]? = some (.stringIter s (pos + 1))) := Lib.hid ((g1.block bi (by have := wnK.out; simp; have h9 := (Array.getElem?_eq_some_iff.1 this).1; omega) (fun e => own_ne_iter wnO.out wnK.out e.symm)).trans ((heap_alloc_old _ _ ((Array.getElem?_eq_some_iff.1 wnK.out).1)).trans wnK.out))
           clear hown hb2 g1 g2)
          go_roundw
          case rel => exact ⟨pos + 1, by omega, HK4.out, by rw [HSU.out, HC.out, tys_app, tys_one]; exact HR.out, HB4.out⟩
          case measure => rw [HMU.out]; simp [World.iterPos, HK4.out]; omega
    · have hnext := fun ty => Lib.run_next_end_at (P := Tryd.prog) wr bi s pos ty HK.out hp
      have hpe : pos = s.size := by omega
      subst hpe
      have hl := Lib.hid (wantL_length s s.size (Nat.le_refl _))
      go_wp2_with fail
      go_ret
      exact ⟨u5, rfl, by rw [← HZ.out, hl.out]; exact HO.out, HB.out⟩

end Go.Proofs.YthmfenagdoefcaaDoor
