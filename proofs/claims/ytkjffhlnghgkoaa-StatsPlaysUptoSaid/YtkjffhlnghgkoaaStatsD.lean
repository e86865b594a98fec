/-
  The state of the law StatsPlays: two Stats and two lists of what was told; what keeps it, what moves it. Conditions: none.
-/
import Derived.Test.YtkjffhlnghgkoaaStatsC
import Derived.Test.YtkjffhlnghgkoaaStatsX
namespace Go.Proofs.Ytkjffhlnghgkoaa
open Go.RowKit

/-- two Stats, the slice that holds them, two lists, the slice that holds those: all made since the call began -/
structure Two (w wr : World) (gs gl ga gb : Nat) (v0 v1 : Value) (Ha Hb : Nat → BitVec 64) (l0 l1 : List ToldV) : Prop where
  a : StatAt wr ga Ha
  b : StatAt wr gb Hb
  s : Ob wr gs 31 [.pointer (some ⟨ga, 0, none⟩), .pointer (some ⟨gb, 0, none⟩)]
  l : Ob wr gl 38 [v0, v1]
  r0 : Row w.heap.size wr v0 l0
  r1 : Row w.heap.size wr v1 l1
  dis : ∀ g, v0.ownBlock = some g → v1.ownBlock ≠ some g
  low : Below w.heap.size w wr
  na : w.heap.size ≤ ga
  nb : w.heap.size ≤ gb
  nl : w.heap.size ≤ gl
  ab : ga ≠ gb

theorem Row.typed {B : Nat} {w : World} {v : Value} {l : List ToldV} (h : Row B w v l) {g : Nat} {T : TypeId} {cs : List Value} (ho : Ob w g T cs) (hT : 56 ≠ T) : v.ownBlock ≠ some g := by
  intro hv
  rcases h.2 with ⟨rfl, _⟩ | ⟨g', cap, cur, rfl, _, hg, _⟩
  · cases hv
  · injection hv with hv
    subst hv
    have h1 : w.heap[g']? = some (.cells cs.toArray T (0, 0)) := ho
    rw [hg] at h1
    injection h1 with h1
    injection h1 with _ h2
    exact hT h2

section
variable {w wr w' : World} {gs gl ga gb : Nat} {v0 v1 : Value} {Ha Hb : Nat → BitVec 64} {l0 l1 : List ToldV}

theorem Two.keep (T : Two w wr gs gl ga gb v0 v1 Ha Hb l0 l1) {row : Option Nat} (hg : wr.grownBy w' row) (h1 : some ga ≠ row) (h2 : some gb ≠ row) (h3 : some gs ≠ row) (h4 : some gl ≠ row)
    (h5 : v0.ownBlock = none ∨ v0.ownBlock ≠ row) (h6 : v1.ownBlock = none ∨ v1.ownBlock ≠ row) (low : Below w.heap.size w w') : Two w w' gs gl ga gb v0 v1 Ha Hb l0 l1 :=
  ⟨Ob.grown T.a hg h1, Ob.grown T.b hg h2, Ob.grown T.s hg h3, Ob.grown T.l hg h4, World.ownsRow.kept T.r0 hg h5, World.ownsRow.kept T.r1 hg h6, T.dis, low, T.na, T.nb, T.nl, T.ab⟩
theorem Below.grownNone {a b : World} (h : Below a.heap.size a b) : a.grownBy b none := ⟨h.os, h.tape, h.output, h.size, fun i hi _ => h.block i hi⟩
theorem Two.more (T : Two w wr gs gl ga gb v0 v1 Ha Hb l0 l1) (h : Below wr.heap.size wr w') : Two w w' gs gl ga gb v0 v1 Ha Hb l0 l1 :=
  T.keep (Below.grownNone h) (by simp) (by simp) (by simp) (by simp) (by cases v0.ownBlock <;> simp) (by cases v1.ownBlock <;> simp) (T.low.trans (h.mono T.low.size))
theorem Two.drewN (T : Two w wr gs gl ga gb v0 v1 Ha Hb l0 l1) (n : Nat) : Two w (wr.drewN n) gs gl ga gb v0 v1 Ha Hb l0 l1 := T.more (below_drewN (Below.refl _ _) n)
theorem Two.drew (T : Two w wr gs gl ga gb v0 v1 Ha Hb l0 l1) : Two w wr.drew gs gl ga gb v0 v1 Ha Hb l0 l1 := T.more (below_drewN (Below.refl _ _) 1)
theorem Two.lt (T : Two w wr gs gl ga gb v0 v1 Ha Hb l0 l1) : gs < wr.heap.size ∧ gl < wr.heap.size ∧ ga < wr.heap.size ∧ gb < wr.heap.size := ⟨T.s.lt, T.l.lt, Ob.lt T.a, Ob.lt T.b⟩

/-- a list beside the two: its own block is neither's -/
structure Third (w wr : World) (v0 v1 v : Value) (l : List ToldV) : Prop where
  row : Row w.heap.size wr v l
  n0 : ∀ g, v.ownBlock = some g → v0.ownBlock ≠ some g
  n1 : ∀ g, v.ownBlock = some g → v1.ownBlock ≠ some g
theorem Two.side (T : Two w wr gs gl ga gb v0 v1 Ha Hb l0 l1) {v v' : Value} {l l' : List ToldV} (R : Third w wr v0 v1 v l) (G : Grew w wr w' v v' l') : Two w w' gs gl ga gb v0 v1 Ha Hb l0 l1 ∧ Third w w' v0 v1 v' l' := by
  have t (g : Nat) (h : v.ownBlock ≠ some g) : some g ≠ v.ownBlock := fun e => h e.symm
  refine ⟨T.keep G.grown (t _ (R.row.typed T.a (by decide))) (t _ (R.row.typed T.b (by decide))) (t _ (R.row.typed T.s (by decide))) (t _ (R.row.typed T.l (by decide))) ?_ ?_ G.low, G.row, ?_, ?_⟩
  · cases h : v0.ownBlock with
    | none => exact .inl rfl
    | some g => exact .inr fun e => R.n0 g e.symm h
  · cases h : v1.ownBlock with
    | none => exact .inl rfl
    | some g => exact .inr fun e => R.n1 g e.symm h
  · intro g hg h
    rcases G.blk g hg with h1 | h1
    · exact R.n0 g h1 h
    · have := (World.ownsRow.lt T.r0 g h).2; omega
  · intro g hg h
    rcases G.blk g hg with h1 | h1
    · exact R.n1 g h1 h
    · have := (World.ownsRow.lt T.r1 g h).2; omega
theorem Third.more {v : Value} {l : List ToldV} (R : Third w wr v0 v1 v l) (h : Below wr.heap.size wr w') : Third w w' v0 v1 v l :=
  ⟨World.ownsRow.kept R.row (Below.grownNone h) (by cases v.ownBlock <;> simp), R.n0, R.n1⟩

theorem Two.ob0 (T : Two w wr gs gl ga gb v0 v1 Ha Hb l0 l1) {v : Value} {l : List ToldV} (G : Grew w wr w' v0 v l) {g : Nat} {t : TypeId} {cs : List Value} (ho : Ob wr g t cs) (hT : 56 ≠ t) : Ob w' g t cs :=
  Ob.grown ho G.grown fun e => T.r0.typed ho hT e.symm
theorem Two.ob1 (T : Two w wr gs gl ga gb v0 v1 Ha Hb l0 l1) {v : Value} {l : List ToldV} (G : Grew w wr w' v1 v l) {g : Nat} {t : TypeId} {cs : List Value} (ho : Ob wr g t cs) (hT : 56 ≠ t) : Ob w' g t cs :=
  Ob.grown ho G.grown fun e => T.r1.typed ho hT e.symm

/-- one list told more, and stored -/
theorem Two.step0 (T : Two w wr gs gl ga gb v0 v1 Ha Hb l0 l1) {v : Value} {l : List ToldV} (G : Grew w wr w' v0 v l) : Two w (w'.setCell ⟨gl, 0, none⟩ v) gs gl ga gb v v1 Ha Hb l l1 := by
  have t (g : Nat) (h : v0.ownBlock ≠ some g) : some g ≠ v0.ownBlock := fun e => h e.symm
  have a' := Ob.grown T.a G.grown (t _ (T.r0.typed T.a (by decide)))
  have b' := Ob.grown T.b G.grown (t _ (T.r0.typed T.b (by decide)))
  have s' := Ob.grown T.s G.grown (t _ (T.r0.typed T.s (by decide)))
  have l' := Ob.grown T.l G.grown (t _ (T.r0.typed T.l (by decide)))
  have r1' : Row w.heap.size w' v1 l1 := World.ownsRow.kept T.r1 G.grown (by
    cases h : v1.ownBlock with
    | none => exact .inl rfl
    | some g => exact .inr fun e => T.dis g e.symm h)
  have hn : Only w' (w'.setCell ⟨gl, 0, none⟩ v) gl := (Only.refl w' gl).setCell rfl v
  have la := Ob.ne_ l' a' (by decide)
  have lb := Ob.ne_ l' b' (by decide)
  have ls := Ob.ne_ l' s' (by decide)
  refine ⟨Ob.only a' hn la.symm, Ob.only b' hn lb.symm, Ob.only s' hn ls.symm, l'.set_ 0 v, World.ownsRow.kept G.row hn (.inr (G.row.typed l' (by decide))), World.ownsRow.kept r1' hn (.inr (r1'.typed l' (by decide))), ?_, Only.below G.low hn G.low.size T.nl, T.na, T.nb, T.nl, T.ab⟩
  intro g hg h
  rcases G.blk g hg with h1 | h1
  · exact T.dis g h1 h
  · have := (World.ownsRow.lt T.r1 g h).2; omega
theorem Two.step1 (T : Two w wr gs gl ga gb v0 v1 Ha Hb l0 l1) {v : Value} {l : List ToldV} (G : Grew w wr w' v1 v l) : Two w (w'.setCell ⟨gl, 1, none⟩ v) gs gl ga gb v0 v Ha Hb l0 l := by
  have t (g : Nat) (h : v1.ownBlock ≠ some g) : some g ≠ v1.ownBlock := fun e => h e.symm
  have a' := Ob.grown T.a G.grown (t _ (T.r1.typed T.a (by decide)))
  have b' := Ob.grown T.b G.grown (t _ (T.r1.typed T.b (by decide)))
  have s' := Ob.grown T.s G.grown (t _ (T.r1.typed T.s (by decide)))
  have l' := Ob.grown T.l G.grown (t _ (T.r1.typed T.l (by decide)))
  have r0' : Row w.heap.size w' v0 l0 := World.ownsRow.kept T.r0 G.grown (by
    cases h : v0.ownBlock with
    | none => exact .inl rfl
    | some g => exact .inr fun e => T.dis g h e.symm)
  have hn : Only w' (w'.setCell ⟨gl, 1, none⟩ v) gl := (Only.refl w' gl).setCell rfl v
  have la := Ob.ne_ l' a' (by decide)
  have lb := Ob.ne_ l' b' (by decide)
  have ls := Ob.ne_ l' s' (by decide)
  refine ⟨Ob.only a' hn la.symm, Ob.only b' hn lb.symm, Ob.only s' hn ls.symm, l'.set_ 1 v, World.ownsRow.kept r0' hn (.inr (r0'.typed l' (by decide))), World.ownsRow.kept G.row hn (.inr (G.row.typed l' (by decide))), ?_, Only.below G.low hn G.low.size T.nl, T.na, T.nb, T.nl, T.ab⟩
  intro g hg h
  rcases G.blk g h with h1 | h1
  · exact T.dis g hg h1
  · have := (World.ownsRow.lt T.r0 g hg).2; omega
theorem Two.tell0 (T : Two w wr gs gl ga gb v0 v1 Ha Hb l0 l1) {H : Nat → BitVec 64} (h : StatAt w' ga H) (hn : Only wr w' ga) : Two w w' gs gl ga gb v0 v1 H Hb l0 l1 :=
  ⟨h, Ob.only T.b hn T.ab.symm, Ob.only T.s hn (Ob.ne_ T.s T.a (by decide)), Ob.only T.l hn (Ob.ne_ T.l T.a (by decide)), World.ownsRow.kept T.r0 hn (.inr (T.r0.typed T.a (by decide))), World.ownsRow.kept T.r1 hn (.inr (T.r1.typed T.a (by decide))), T.dis,
    Only.below T.low hn T.low.size T.na, T.na, T.nb, T.nl, T.ab⟩
theorem Two.tell1 (T : Two w wr gs gl ga gb v0 v1 Ha Hb l0 l1) {H : Nat → BitVec 64} (h : StatAt w' gb H) (hn : Only wr w' gb) : Two w w' gs gl ga gb v0 v1 Ha H l0 l1 :=
  ⟨Ob.only T.a hn T.ab, h, Ob.only T.s hn (Ob.ne_ T.s T.b (by decide)), Ob.only T.l hn (Ob.ne_ T.l T.b (by decide)), World.ownsRow.kept T.r0 hn (.inr (T.r0.typed T.b (by decide))), World.ownsRow.kept T.r1 hn (.inr (T.r1.typed T.b (by decide))), T.dis,
    Only.below T.low hn T.low.size T.nb, T.na, T.nb, T.nl, T.ab⟩
end

/-- one list laid behind another -/
theorem Grew.cat {w0 w w' : World} {v v' : Value} {l l' : List ToldV} (hown : w'.ownsRow w0.heap.size 56 5 v' (l.length + l'.length) (tdvs l ++ tdvs l')) (hb : Below w0.heap.size w0 w')
    (g1 : w.grownBy w' v.ownBlock) (g2 : v'.ownBlock = v.ownBlock ∨ v'.ownBlock = some w.heap.size) : Grew w0 w w' v v' (l ++ l') :=
  ⟨by unfold Row; rw [tdvs_app, List.length_append]; exact hown, hb, g1, fun g hg => by
    rcases g2 with h | h
    · exact .inl (h ▸ hg)
    · rw [h] at hg
      injection hg with hg
      exact .inr (by omega)⟩

theorem row_form {B : Nat} {w : World} {v : Value} {l : List ToldV} (h : Row B w v l) : ∃ A c, v = .slice A l.length c ∧ RdTold w A l := by
  obtain ⟨A, c, hv, _, _, hs, _⟩ := own_form h
  exact ⟨A, c, hv, hs⟩

/-- what a call does to the numbers is what its list adds -/
theorem cnt_app (l l' : List ToldV) : cnt (l ++ l') = l'.foldl (fun H t => addAt H t.hook (tTly t)) (cnt l) := by unfold cnt; rw [List.foldl_append]
theorem eff_ran (o : OpV) (hk : o.kind = 0) (l : List ToldV) : eff o (cnt l) = cnt (l ++ ranTold o.hook o.s o.c o.r) := by
  rw [cnt_app]
  unfold eff ranTold
  rw [if_pos hk]
  split <;> rfl
theorem eff_miss (o : OpV) (hk : o.kind ≠ 0) (l : List ToldV) : eff o (cnt l) = cnt (l ++ missTold o.hs) := by
  rw [cnt_app]
  unfold eff missTold
  rw [if_neg hk]
  split
  · unfold missed
    rw [List.foldl_map]
    rfl
  · rfl
theorem code_ran (o : OpV) (hk : o.kind = 0) : code o = ranCode o.hook := by unfold code ranCode; rw [if_pos hk]
theorem code_miss (o : OpV) (hk : o.kind ≠ 0) : code o = missCode o.hs := by unfold code missCode; rw [if_neg hk]
theorem ranTold_len (h : Int) (s c r : BitVec 64) : (ranTold h s c r).length ≤ 1 := by unfold ranTold; split <;> simp
theorem missTold_len (hs : List Int) : (missTold hs).length ≤ hs.length := by unfold missTold; split <;> simp

open Classical in
noncomputable def ofT (H : Nat → BitVec 64) (h : Int) : Tly := if Hook h then tl H h.toNat else z5
theorem of_all (g : Nat) (H : Nat → BitVec 64) (h : Int) (w : World) (hob : StatAt w g H) :
    Calls Try.prog 13 #[.pointer (some ⟨g, 0, none⟩), .int .i64 h] w fun e w' => e = .returned (.tuple #[tVal (ofT H h), .int .i64 (ranCode h)]) ∧ Below w.heap.size w w' := by
  by_cases hh : Hook h
  · unfold ofT ranCode
    rw [if_pos hh, if_pos hh]
    exact of_at h h.toNat (by have := hh.1; omega) g H (by have := hh.1; have := hh.2; omega) w hob
  · unfold ofT ranCode
    rw [if_neg hh, if_neg hh]
    exact of_out w _ h hh
theorem ref_of_all (w : World) (A : Option Addr) (l : List ToldV) (n c : Nat) (h : Int) (hn : n = l.length) (hmax : n ≤ 461168601842738790) (hs : RdTold w A l) :
    Calls Try.prog 14 #[.slice A n c, .int .i64 h] w fun e w' => e = .returned (.tuple #[tVal (ofT (cnt l) h), .int .i64 (ranCode h)]) ∧ Below w.heap.size w w' := by
  by_cases hh : Hook h
  · unfold ofT ranCode
    rw [if_pos hh, if_pos hh]
    obtain ⟨y, rfl⟩ : ∃ y : Nat, h = (y : Int) := ⟨h.toNat, by have := hh.1; omega⟩
    exact ref_of_in w A l n c y hn hmax (by have := hh.2; omega) hs
  · unfold ofT ranCode
    rw [if_neg hh, if_neg hh]
    exact ref_of_out w _ h hh

theorem own_typed {w : World} {B : Nat} {e T : TypeId} {size : Nat} {v : Value} {n : Nat} {xs cs : List Value} {g : Nat} (h : w.ownsRow B e size v n xs) (ho : Ob w g T cs) (hT : e ≠ T) : some g ≠ v.ownBlock := by
  intro hv
  rcases h.2 with ⟨rfl, _⟩ | ⟨g', cap, cur, rfl, _, hg, _⟩
  · cases hv
  · injection hv with hv
    subst hv
    have h1 : w.heap[g]? = some (.cells cs.toArray T (0, 0)) := ho
    rw [hg] at h1
    injection h1 with h1
    injection h1 with _ h2
    exact hT h2
theorem own_apart {w : World} {B B' : Nat} {e e' : TypeId} {size size' : Nat} {v v' : Value} {n n' : Nat} {xs xs' : List Value} (h : w.ownsRow B e size v n xs) (h' : w.ownsRow B' e' size' v' n' xs') (hT : e ≠ e') : v.ownBlock = none ∨ v.ownBlock ≠ v'.ownBlock := by
  rcases h.2 with ⟨rfl, _⟩ | ⟨g, cap, cur, rfl, _, hg, _⟩
  · exact .inl rfl
  · right
    rcases h'.2 with ⟨rfl, _⟩ | ⟨g', cap', cur', rfl, _, hg', _⟩
    · simp [Value.ownBlock]
    · intro hv
      injection hv with hv
      subst hv
      rw [hg] at hg'
      injection hg' with hg'
      injection hg' with _ h2
      exact hT h2
section
variable {w wr w' : World} {gs gl ga gb : Nat} {v0 v1 : Value} {Ha Hb : Nat → BitVec 64} {l0 l1 : List ToldV}
/-- a list of another kind has grown -/
theorem Two.beside (T : Two w wr gs gl ga gb v0 v1 Ha Hb l0 l1) {u : Value} {n : Nat} {xs : List Value} (h : wr.ownsRow w.heap.size 26 5 u n xs) (hg : wr.grownBy w' u.ownBlock) (low : Below w.heap.size w w') : Two w w' gs gl ga gb v0 v1 Ha Hb l0 l1 :=
  T.keep hg (own_typed h T.a (by decide)) (own_typed h T.b (by decide)) (own_typed h T.s (by decide)) (own_typed h T.l (by decide)) (own_apart T.r0 h (by decide)) (own_apart T.r1 h (by decide)) low
theorem Third.beside {v : Value} {l : List ToldV} (R : Third w wr v0 v1 v l) {u : Value} {n : Nat} {xs : List Value} (h : wr.ownsRow w.heap.size 26 5 u n xs) (hg : wr.grownBy w' u.ownBlock) : Third w w' v0 v1 v l :=
  ⟨World.ownsRow.kept R.row hg (own_apart R.row h (by decide)), R.n0, R.n1⟩
theorem Two.sel (T : Two w wr gs gl ga gb v0 v1 (cnt l0) (cnt l1) l0 l1) (h0 : l0.length ≤ 419430400) (h1 : l1.length ≤ 419430400) (j : Nat) (hj : j < 2) : ∃ gk lk Ak ck, wr.cell? ⟨gs, j, none⟩ = some (.pointer (some ⟨gk, 0, none⟩)) ∧ wr.cell? ⟨gl, j, none⟩ = some (.slice Ak lk.length ck) ∧ StatAt wr gk (cnt lk) ∧ RdTold wr Ak lk ∧ lk.length ≤ 419430400 := by
  obtain ⟨A0, c0, rfl, r0⟩ := row_form T.r0
  obtain ⟨A1, c1, rfl, r1⟩ := row_form T.r1
  match j, hj with
  | 0, _ => exact ⟨ga, l0, A0, c0, T.s.cell 0, T.l.cell 0, T.a, r0, h0⟩
  | 1, _ => exact ⟨gb, l1, A1, c1, T.s.cell 1, T.l.cell 1, T.b, r1, h1⟩
end

theorem cnt_add (a b : List ToldV) (i : Nat) : cnt (a ++ b) i = cnt a i + cnt b i := by
  have h : ∀ (b : List ToldV) (F G : Nat → BitVec 64), b.foldl (fun H t => addAt H t.hook (tTly t)) (fun i => F i + G i) = fun i => F i + b.foldl (fun H t => addAt H t.hook (tTly t)) G i := by
    intro b
    induction b with
    | nil => intro F G; rfl
    | cons t r ih => intro F G; rw [List.foldl_cons, addAt_add, ih]; rfl
  rw [cnt_app]
  have h2 := h b (cnt a) (fun _ => 0#64)
  rw [show (fun i => cnt a i + (fun _ => 0#64) i) = cnt a from by funext i; simp] at h2
  rw [h2]
  rfl
theorem tly_row : (Try.prog.info? 26).map (fun i => (i.zero, i.size, i.bytes)) = some (some (.agg #[.int .u64 0, .int .u64 0, .int .u64 0, .int .u64 0, .int .u64 0]), 5, 40) := by kernel_rfl

def four (H : Nat → BitVec 64) : List Tly := [tl H 0, tl H 1, tl H 2, tl H 3]
theorem tlys20 {w : World} {g : Nat} {T : TypeId} {H : Nat → BitVec 64} (h : Ob w g T ([] ++ (arr 20 H ++ []))) : TlysAt w g 0 (four H) := fun i hi j hj => by
  have hi4 : i < 4 := hi
  rw [Nat.zero_add, ob20_cells h i hi4 j hj]
  match i, hi4 with
  | 0, _ => rfl
  | 1, _ => rfl
  | 2, _ => rfl
  | 3, _ => rfl
/-- tallies of two rows of four that are alike -/
theorem same_rows {w : World} {x y : Nat} {H : Nat → BitVec 64} (hx : Ob w x 26 ([] ++ (arr 20 H ++ []))) (hy : Ob w y 26 ([] ++ (arr 20 H ++ []))) :
    Calls Try.prog 8 #[.slice (some ⟨x, 0, none⟩) 4 4, .slice (some ⟨y, 0, none⟩) 4 4] w fun e w' => e = .returned (.bool true) ∧ ∃ d, w' = w.drewN d :=
  tallies_true (four H) x 0 4 y 0 4 4 rfl (by omega) w (tlys20 hx) (tlys20 hy)
theorem TlysAt.below {w w' : World} {b o : Nat} {l : List Tly} (h : TlysAt w b o l) (hb : b < w.heap.size) (hbl : Below w.heap.size w w') : TlysAt w' b o l := fun i hi j hj => by
  rw [hbl.cell hb]; exact h i hi j hj
theorem tlys_sl20 {w : World} {A : Option Addr} {H : Nat → BitVec 64} (h : Sl w A (arr 20 H)) : ∃ b o, A = some ⟨b, o, none⟩ ∧ b < w.heap.size ∧ TlysAt w b o (four H) := by
  obtain ⟨b, o, e, hc⟩ := h (by rw [arr_length]; omega)
  rw [arr_length] at hc
  refine ⟨b, o, e, cell_lt (hc 0 (by omega)), fun i hi j hj => ?_⟩
  have hi4 : i < 4 := hi
  have h1 := hc (i * 5 + j) (by omega)
  rw [← Nat.add_assoc, List.getD_eq_getElem?_getD, arr_get 20 H _ (by omega)] at h1
  rw [h1]
  match i, hi4 with
  | 0, _ => rfl
  | 1, _ => rfl
  | 2, _ => rfl
  | 3, _ => rfl
/-- how many hooks lie below m - 1 -/
def kn (m : Nat) : Nat := min (m - 1) 4
theorem arr_five (F : Nat → BitVec 64) (k : Nat) : arr (k * 5) F ++ arr 5 (tl F k) = arr ((k + 1) * 5) F := by
  unfold arr tl
  rw [show (k + 1) * 5 = k * 5 + 5 from by omega, List.range_add, List.map_append, List.map_map]
  rfl
theorem tot_all (l0 l1 : List ToldV) (a b : Nat) : arr 20 (tot [some (a, cnt l0), none, some (b, cnt l1), some (a, cnt l0)]) = arr 20 (cnt ([] ++ l0 ++ l1 ++ l0)) := arr_congr fun j _ => by
  rw [cnt_add, cnt_add, List.nil_append]; simp [tot, cntOf]

end Go.Proofs.Ytkjffhlnghgkoaa
