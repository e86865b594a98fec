/-
  The document's answer for layer 20: Ran and Missed of tappetref20 (a list of what was told, appended). Conditions: those of each theorem.
-/
import Derived.Test.YtkjffhlnghgkoaaStatsU
namespace Go.Proofs.Ytkjffhlnghgkoaa
open Go.RowKit

attribute [local go_sem] uv_nonneg uv_wrap uv_add uv_sub uv_add1 uv_sub1

/-- one thing told -/
structure ToldV where
  hook : Nat
  miss : Bool
  s : BitVec 64
  c : BitVec 64
  r : BitVec 64
def told0 : ToldV := ⟨0, false, 0#64, 0#64, 0#64⟩
def tdv (t : ToldV) : List Value := [.int .i64 t.hook, .bool t.miss, .int .u64 (uv t.s), .int .u64 (uv t.c), .int .u64 (uv t.r)]
def tdvs (l : List ToldV) : List Value := l.flatMap tdv
theorem tdvs_length (l : List ToldV) : (tdvs l).length = l.length * 5 := by
  induction l with
  | nil => rfl
  | cons f r ih => simp only [tdvs, List.flatMap_cons, List.length_append, List.length_cons] at ih ⊢; rw [ih, show (tdv f).length = 5 from rfl]; omega
theorem tdvs_app (a b : List ToldV) : tdvs (a ++ b) = tdvs a ++ tdvs b := List.flatMap_append
theorem tdvs_get : ∀ (l : List ToldV) (i j : Nat), i < l.length → j < 5 → (tdvs l)[i * 5 + j]? = (tdv (l.getD i told0))[j]?
  | f :: r, 0, j, _, hj => by
    simp only [tdvs, List.flatMap_cons, Nat.zero_mul, Nat.zero_add]
    rw [List.getElem?_append_left hj]
    rfl
  | f :: r, i + 1, j, hi, hj => by
    simp only [tdvs, List.flatMap_cons]
    have h5 : (tdv f).length = 5 := rfl
    rw [List.getElem?_append_right (by rw [h5]; omega), h5, show (i + 1) * 5 + j - 5 = i * 5 + j from by omega]
    exact tdvs_get r i j (by simpa using hi) hj
theorem tdv_one (t : ToldV) : ∀ u ∈ tdv t, u.oneCell' = true := by
  intro u hu
  simp only [tdv, List.mem_cons, List.mem_nil_iff, or_false] at hu
  rcases hu with rfl | rfl | rfl | rfl | rfl <;> rfl
theorem tdvs_one (l : List ToldV) : ∀ u ∈ tdvs l, u.oneCell' = true := by
  intro u hu
  simp only [tdvs, List.mem_flatMap] at hu
  obtain ⟨f, _, hf⟩ := hu
  exact tdv_one f u hf

/-- a list of what was told, owned from the block B on -/
def Row (B : Nat) (w : World) (v : Value) (l : List ToldV) : Prop := w.ownsRow B 56 5 v l.length (tdvs l)
/-- a list has become another, nothing but its own block being written -/
structure Grew (w0 w w' : World) (v v' : Value) (l : List ToldV) : Prop where
  row : Row w0.heap.size w' v' l
  low : Below w0.heap.size w0 w'
  grown : w.grownBy w' v.ownBlock
  blk : ∀ g, v'.ownBlock = some g → v.ownBlock = some g ∨ w.heap.size ≤ g

theorem Row.alloc {B : Nat} {w : World} {v : Value} {l : List ToldV} (h : Row B w v l) (o : Obj) : Row B (w.alloc o) v l := World.ownsRow.alloc h o
theorem Grew.refl {w0 w : World} {v : Value} {l : List ToldV} (hr : Row w0.heap.size w v l) (hB : Below w0.heap.size w0 w) : Grew w0 w w v v l :=
  ⟨hr, hB, World.grownBy.refl _ _, fun _ h => .inl h⟩
theorem Grew.trans {w0 w w' w'' : World} {v v' v'' : Value} {l l' : List ToldV} (h : Grew w0 w w' v v' l) (k : Grew w0 w' w'' v' v'' l') : Grew w0 w w'' v v'' l' :=
  ⟨k.row, k.low, h.grown.andThen k.grown fun j hj => (h.blk j hj).symm, fun g hg => by
    rcases k.blk g hg with h1 | h1
    · exact h.blk g h1
    · exact .inr (Nat.le_trans (World.grownBy.size h.grown) h1)⟩
/-- one more told, by an append out of a new block -/
theorem Grew.snoc {w0 w w' : World} {v v' : Value} {l : List ToldV} {t : ToldV} (o : Obj) (hown : w'.ownsRow w0.heap.size 56 5 v' (l.length + 1) (tdvs l ++ tdv t)) (hb : Below w0.heap.size w0 w')
    (g1 : (w.alloc o).grownBy w' v.ownBlock) (g2 : v'.ownBlock = v.ownBlock ∨ v'.ownBlock = some (w.alloc o).heap.size) : Grew w0 w w' v v' (l ++ [t]) :=
  ⟨by unfold Row; rw [tdvs_app, List.length_append]; simpa [tdvs] using hown, hb, (World.grownBy_alloc w o _).trans g1, fun g hg => by
    rcases g2 with h | h
    · exact .inl (h ▸ hg)
    · rw [h] at hg
      injection hg with hg
      subst hg
      exact .inr (by simp)⟩

theorem told_info : (Try.prog.info? 56).map (fun i => (i.zero, i.size, i.bytes)) = some (some (.agg #[.int .i64 0, .bool false, .int .u64 0, .int .u64 0, .int .u64 0]), 5, 40) := by kernel_rfl

open Classical in
noncomputable def ranCode (h : Int) : Int := if Hook h then 0 else 2
open Classical in
noncomputable def ranTold (h : Int) (s c r : BitVec 64) : List ToldV := if Hook h then [⟨h.toNat, false, s, c, r⟩] else []

set_option maxRecDepth 100000 in
set_option maxHeartbeats 1000000 in
theorem ref_ran (w0 w : World) (v : Value) (l : List ToldV) (h : Int) (s c r : BitVec 64) (hB : Below w0.heap.size w0 w) (hr : Row w0.heap.size w v l) (hmax : l.length ≤ 3000000000) :
    Calls Try.prog 10 #[v, .int .i64 h, .int .u64 (uv s), .int .u64 (uv c), .int .u64 (uv r)] w fun e w' => ∃ v', e = .returned (.tuple #[v', .int .i64 (ranCode h)]) ∧ Grew w0 w w' v v' (l ++ ranTold h s c r) := by
  have HB := Lib.hid hB
  have HR := Lib.hid hr
  clear hB hr
  by_cases hh : Hook h
  · have e1 : ranCode h = 0 := by unfold ranCode; rw [if_pos hh]
    have e2 : ranTold h s c r = [⟨h.toNat, false, s, c, r⟩] := by unfold ranTold; rw [if_pos hh]
    rw [e1, e2]
    clear e1 e2
    obtain ⟨y, rfl⟩ : ∃ y : Nat, h = (y : Int) := ⟨h.toNat, by have := hh.1; omega⟩
    have hy : (y : Int) < 4 := by have := hh.2; omega
    clear hh
    rw [Int.toNat_natCast]
    obtain ⟨i0, hi0, hz0, hz1, hz2⟩ := info_parts told_info
    go_enter Try.func10, Try.ntmps10
    go_wp2_with
      (at_builtin
       refine wpList_append_in _ rfl (.tmp 19) (.tmp 25) _ rfl (below_alloc HB.out _) 56 i0 _ 5 40 Try.underlying38 hi0 hz0 hz1 hz2 rfl (by omega) v l.length (tdvs l) rfl (World.ownsRow.alloc HR.out _)
         (some ⟨w.heap.size, 0, none⟩) 1 1 (tdv ⟨y, false, s, c, r⟩) rfl rfl (Sl.fresh w (tdv ⟨y, false, s, c, r⟩).toArray 56 (0, 0)) (tdv_one _) (by omega) (by omega) ?_
       intro v2 w2 hown hb2 g1 g2
       have HG := Lib.hid (Grew.snoc (w := w) (t := ⟨y, false, s, c, r⟩) _ hown hb2 g1 g2)
       clear hown hb2 g1 g2)
    go_ret2
    exact ⟨v2, rfl, HG.out⟩
  · have e1 : ranCode h = 2 := by unfold ranCode; rw [if_neg hh]
    have e2 : ranTold h s c r = [] := by unfold ranTold; rw [if_neg hh]
    rw [e1, e2, List.append_nil]
    clear e1 e2
    by_cases h0 : h < 0
    · clear hh
      go_enter Try.func10, Try.ntmps10
      go_wp2_with fail
      go_ret2
      exact ⟨v, rfl, Grew.refl HR.out HB.out⟩
    · have h1 : 3 < h := by unfold Hook at hh; omega
      clear hh
      go_enter Try.func10, Try.ntmps10
      go_wp2_with fail
      go_ret2
      exact ⟨v, rfl, Grew.refl HR.out HB.out⟩

open Classical in
noncomputable def missCode (hs : List Int) : Int := if AllHooks hs then 0 else 2
def missOf (h : Int) : ToldV := ⟨h.toNat, true, 0#64, 0#64, 0#64⟩
open Classical in
noncomputable def missTold (hs : List Int) : List ToldV := if AllHooks hs then hs.map missOf else []

set_option maxRecDepth 100000 in
set_option maxHeartbeats 2000000 in
theorem ref_missed_in (w0 w : World) (v : Value) (l : List ToldV) (hs : List Int) (A : Option Addr) (c n : Nat) (hn : n = hs.length) (hall : AllHooks hs) (hB : Below w0.heap.size w0 w) (hsl : Sl w0 A (intsV hs)) (hr : Row w0.heap.size w v l)
    (hmax : l.length + n ≤ 3000000000) :
    Calls Try.prog 11 #[v, .slice A n c] w fun e w' => ∃ v', e = .returned (.tuple #[v', .int .i64 0]) ∧ Grew w0 w w' v v' (l ++ hs.map missOf) := by
  obtain ⟨i0, hi0, hz0, hz1, hz2⟩ := info_parts told_info
  have HB := Lib.hid hB
  have HR := Lib.hid hr
  have HS := Lib.hid hsl
  have HN := Lib.hid hn
  have HA := Lib.hid hall
  clear hB hr hsl hn hall
  go_enter Try.func11, Try.ntmps11
  go_wp2_with fail
  go_loopw [6] (fun i wr => ∃ k : Nat, k ≤ n ∧ i = .int .i64 k ∧ w = wr) (fun i _ => n - (intOf i).toNat)
  case atStart => exact ⟨0, Nat.zero_le _, rfl, rfl⟩
  case round =>
    obtain ⟨k, hk, rfl, rfl⟩ := hrel
    by_cases hlt : k < n
    · obtain ⟨b, o, rfl, hcc⟩ := sl_intsV HS.out (by have := HN.out; omega)
      have f1 := hcc k (by have := HN.out; omega)
      have f1 := (HB.out.cell (cell_lt f1)).trans f1
      have hh := HA.out k (by have := HN.out; omega)
      clear hcc
      generalize hs.getD k 0 = x at f1 hh
      have hx0 : 0 ≤ x := hh.1
      have hx1 : x < 4 := hh.2
      clear hh
      have g1 : (k : Int) < (n : Int) := by omega
      go_wp2_with fail
      go_roundw
      case rel => exact ⟨k + 1, by omega, by go_num, trivial⟩
      case measure => simp [intOf]; omega
    · have g1 : ¬ (k : Int) < (n : Int) := by omega
      clear g1
      go_wp2_with fail
      go_loopw [0, 7] (fun u i wr => ∃ k : Nat, k ≤ n ∧ i = .int .i64 k ∧ Grew w0 w wr v u (l ++ (hs.take k).map missOf)) (fun _ i _ => n - (intOf i).toNat)
      case atStart => exact ⟨0, Nat.zero_le _, rfl, by simpa using Grew.refl HR.out HB.out⟩
      case round =>
        obtain ⟨j, hj, rfl, hg⟩ := hrel
        have HG := Lib.hid hg
        clear hg
        by_cases hlj : j < n
        · obtain ⟨b, o, rfl, hcc⟩ := sl_intsV HS.out (by have := HN.out; omega)
          have hjl : j < hs.length := by have := HN.out; omega
          have f1 : wr.cell? ⟨b, o + j, none⟩ = some (.int .i64 (hs.getD j 0)) := (HG.out.low.cell (cell_lt (hcc j hjl))).trans (hcc j hjl)
          have hh := HA.out j hjl
          have HM : Hid ((hs.take (j + 1)).map missOf = (hs.take j).map missOf ++ [missOf (hs.getD j 0)]) := Lib.hid (by
            rw [List.take_succ_eq_append_getElem hjl, List.map_append, List.getD_eq_getElem?_getD, List.getElem?_eq_getElem hjl]; rfl)
          have hL : (l ++ (hs.take j).map missOf).length = l.length + j := by simp; omega
          have HL := Lib.hid hL
          clear hcc hL
          generalize hs.getD j 0 = x at f1 hh HM
          obtain ⟨y, rfl⟩ : ∃ y : Nat, x = (y : Int) := ⟨x.toNat, by have := hh.1; omega⟩
          have HY : Hid (missOf (y : Int) = ⟨y, true, 0#64, 0#64, 0#64⟩) := Lib.hid (by unfold missOf; rw [Int.toNat_natCast])
          clear hh
          rw [HY.out] at HM
          generalize hLe : l ++ (hs.take j).map missOf = L at HG HL
          have HLe := Lib.hid hLe
          clear hLe
          have g1 : (j : Int) < (n : Int) := by omega
          go_wp2_with
            (at_builtin
             refine wpList_append_in _ rfl (.tmp 33) (.tmp 39) _ rfl (below_alloc HG.out.low _) 56 i0 _ 5 40 Try.underlying38 hi0 hz0 hz1 hz2 rfl (by omega) _ L.length (tdvs L) rfl (World.ownsRow.alloc HG.out.row _)
               (some ⟨wr.heap.size, 0, none⟩) 1 1 (tdv ⟨y, true, 0#64, 0#64, 0#64⟩) rfl rfl (Sl.fresh wr (tdv ⟨y, true, 0#64, 0#64, 0#64⟩).toArray 56 (0, 0)) (tdv_one _) (by have := HL.out; omega) (by omega) ?_
             intro v2 w2 hown hb2 g1 g2
             have HG2 := Lib.hid (HG.out.trans (Grew.snoc (w := wr) (t := ⟨y, true, 0#64, 0#64, 0#64⟩) _ hown hb2 g1 g2))
             clear hown hb2 g1 g2)
          go_roundw
          case rel =>
            refine ⟨j + 1, by omega, by go_num, ?_⟩
            rw [HM.out, ← List.append_assoc, HLe.out]
            exact HG2.out
          case measure => simp [intOf]; omega
        · have g1 : ¬ (j : Int) < (n : Int) := by omega
          have hjn : j = hs.length := by have := HN.out; omega
          subst hjn
          rw [List.take_length] at HG
          go_wp2_with fail
          go_ret2
          exact ⟨_, rfl, HG.out⟩

set_option maxRecDepth 100000 in
set_option maxHeartbeats 1000000 in
theorem ref_missed_out (w0 w : World) (v : Value) (l : List ToldV) (hs : List Int) (A : Option Addr) (c n m : Nat) (hn : n = hs.length) (hm : m < hs.length) (hall : ∀ k, k < m → Hook (hs.getD k 0)) (hbad : ¬ Hook (hs.getD m 0))
    (hB : Below w0.heap.size w0 w) (hsl : Sl w0 A (intsV hs)) (hmax : n ≤ 4611686018427387904) :
    Calls Try.prog 11 #[v, .slice A n c] w fun e w' => e = .returned (.tuple #[v, .int .i64 2]) ∧ w = w' := by
  have HB := Lib.hid hB
  have HS := Lib.hid hsl
  have HN := Lib.hid hn
  have HA := Lib.hid hall
  have HM := Lib.hid hm
  have HX := Lib.hid hbad
  clear hB hsl hn hall hm hbad
  obtain ⟨b, o, rfl, hcc⟩ := sl_intsV HS.out (by have := HM.out; omega)
  have HC := Lib.hid hcc
  clear hcc
  go_enter Try.func11, Try.ntmps11
  go_wp2_with fail
  go_loopw [6] (fun i wr => ∃ k : Nat, k ≤ m ∧ i = .int .i64 k ∧ w = wr) (fun i _ => n - (intOf i).toNat)
  case atStart => exact ⟨0, Nat.zero_le _, rfl, rfl⟩
  case round =>
    obtain ⟨k, hk, rfl, rfl⟩ := hrel
    have f1 := HC.out k (by have := HM.out; omega)
    have f1 := (HB.out.cell (cell_lt f1)).trans f1
    have g1 : (k : Int) < (n : Int) := by have := HN.out; have := HM.out; omega
    by_cases hlt : k < m
    · have hh := HA.out k hlt
      generalize hs.getD k 0 = x at f1 hh
      have hx0 : 0 ≤ x := hh.1
      have hx1 : x < 4 := hh.2
      clear hh
      go_wp2_with fail
      go_roundw
      case rel => exact ⟨k + 1, by omega, by go_num, trivial⟩
      case measure => simp [intOf]; omega
    · obtain rfl : k = m := by omega
      generalize hs.getD k 0 = x at f1 HX
      by_cases h0 : x < 0
      · go_wp2_with fail
        go_ret2
        exact ⟨rfl, rfl⟩
      · have h1 : 3 < x := by have hh := HX.out; unfold Hook at hh; omega
        go_wp2_with fail
        go_ret2
        exact ⟨rfl, rfl⟩

theorem ref_missed (w0 w : World) (v : Value) (l : List ToldV) (hs : List Int) (A : Option Addr) (c n : Nat) (hn : n = hs.length) (hB : Below w0.heap.size w0 w) (hsl : Sl w0 A (intsV hs)) (hr : Row w0.heap.size w v l)
    (hmax : l.length + n ≤ 3000000000) :
    Calls Try.prog 11 #[v, .slice A n c] w fun e w' => ∃ v', e = .returned (.tuple #[v', .int .i64 (missCode hs)]) ∧ Grew w0 w w' v v' (l ++ missTold hs) := by
  by_cases hall : AllHooks hs
  · unfold missCode missTold
    rw [if_pos hall, if_pos hall]
    exact ref_missed_in w0 w v l hs A c n hn hall hB hsl hr hmax
  · unfold missCode missTold
    rw [if_neg hall, if_neg hall, List.append_nil]
    obtain ⟨m, hm1, hm2, hm3⟩ := first_bad hall
    refine (ref_missed_out w0 w v l hs A c n m hn hm1 hm3 hm2 hB hsl (by omega)).mono ?_
    rintro e w' ⟨rfl, rfl⟩
    exact ⟨v, rfl, Grew.refl hr hB⟩

end Go.Proofs.Ytkjffhlnghgkoaa
