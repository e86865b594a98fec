/-
  A scratch beside its book: the calls of layer 10, told by the book's list; a script that came in. Conditions: those of each theorem.
-/
import Derived.Test.YtkgiiahkednpmaaScratchE
import Derived.Test.YtkgiiahkednpmaaOpenS
namespace Go.Proofs.Ytkgiiahkednpmaa
open Go.RowKit Go.ChangeShapes Go.WideShapes Go.ChangeAt Go.Deep

theorem ksOf_app1 (l : List AskV) (i : Int) (x : BitVec 64) : ksOf (l ++ askAt 1 i x) = ksOf l := by
  unfold askAt; split
  · rw [ksOf_snoc]; rfl
  · rw [List.append_nil]
theorem wsOf_app3 (l : List AskV) (i : Int) (x : BitVec 64) : wsOf (l ++ askAt 3 i x) = wsOf l := by
  unfold askAt; split
  · rw [wsOf_snoc]; rfl
  · rw [List.append_nil]
theorem ksOf_wipe (l : List AskV) : ksOf (l ++ [⟨2, 0, 0#64⟩]) = ksOf l := by rw [ksOf_snoc]; rfl
theorem wsOf_wipe (l : List AskV) : wsOf (l ++ [⟨2, 0, 0#64⟩]) = zz := by rw [wsOf_snoc]; rfl
theorem wsOf_raise (l : List AskV) (ns : List (BitVec 64)) : ∀ k, wsOf (l ++ raiseAsks ns k) = wsOf l
  | 0 => by simp [raiseAsks]
  | k + 1 => by rw [raiseAsks_succ, ← List.append_assoc, wsOf_snoc]; exact wsOf_raise l ns k
theorem ksOf_raise (l : List AskV) (ns : List (BitVec 64)) : ∀ k, ksOf (l ++ raiseAsks ns k) = raiseTo (ksOf l) ns k
  | 0 => by rw [raiseTo_zero]; simp [raiseAsks]
  | k + 1 => by
    rw [raiseAsks_succ, ← List.append_assoc, ksOf_snoc, ksOf_raise l ns k, ← raiseTo_succ]
    rfl
theorem arr_raise (l : List AskV) (ns : List (BitVec 64)) : arr 16 (ksOf (l ++ raiseAsks ns (min ns.length 16))) = arr 16 (raise (ksOf l) ns) := by
  rw [ksOf_raise]
  exact arr_congr fun j hj => raiseTo_end _ _ _ j rfl hj
theorem arr_store (l : List AskV) (i : Int) (x : BitVec 64) : arr 16 (updI (wsOf l) i x) = arr 16 (wsOf (l ++ askAt 1 i x)) := arr_congr fun j hj => by
  unfold askAt updI
  split
  · rename_i h
    rw [if_pos (by omega), wsOf_snoc]
    have : j = i.toNat := by omega
    subst this
    simp [wsStep, upd]
  · rename_i h
    split
    · rename_i h2
      rw [wsOf_snoc]
      have : j ≠ i.toNat := by omega
      simp [wsStep, upd, this]
    · rw [List.append_nil]

section
variable {w : World} {g : Nat} {l : List AskV} {ks ws : Nat → BitVec 64}
theorem sload (n : Int) (w : World) (g : Nat) (ws ks : Nat → BitVec 64) (h : ScrAt w g ws ks) :
    Calls Try.prog 16 #[.pointer (some ⟨g, 0, none⟩), .int .i64 n] w fun e w' => e = .returned (.tuple #[.int .u64 (uv (valAt ws n)), .int .i64 (codeOf n)]) ∧ w = w' := by
  rcases in_or_out n with ⟨y, rfl, hy⟩ | ho
  · rw [valAt_in _ hy, codeOf_nat hy]
    exact load_in g 0 y _ [] (arr 16 ks ++ []) ws hy rfl w h
  · rw [valAt_out _ ho, codeOf_out' ho]
    exact load_out _ n ho w
theorem scount (n : Int) (w : World) (g : Nat) (ws ks : Nat → BitVec 64) (h : ScrAt w g ws ks) :
    Calls Try.prog 18 #[.pointer (some ⟨g, 16, none⟩), .int .i64 n] w fun e w' => e = .returned (.tuple #[.int .u64 (uv (valAt ks n)), .int .i64 (codeOf n)]) ∧ w = w' := by
  rcases in_or_out n with ⟨y, rfl, hy⟩ | ho
  · rw [valAt_in _ hy, codeOf_nat hy]
    exact count_in g 16 y _ (arr 16 ws) [] ks hy (by rw [arr_length]) w h
  · rw [valAt_out _ ho, codeOf_out' ho]
    exact count_out _ n ho w
theorem sstore (n : Int) (x : BitVec 64) (w : World) (g : Nat) (l : List AskV) (ks : Nat → BitVec 64) (h : ScrAt w g (wsOf l) ks) :
    Calls Try.prog 15 #[.pointer (some ⟨g, 0, none⟩), .int .i64 n, .int .u64 (uv x)] w fun e w' => e = .returned (.int .i64 (codeOf n)) ∧ ScrAt w' g (wsOf (l ++ askAt 1 n x)) ks ∧ Only w w' g :=
  (store_any n x g 0 _ [] (arr 16 ks ++ []) (wsOf l) rfl w h).mono fun e w' hm => ⟨hm.1, by unfold ScrAt; rw [← arr_store]; exact hm.2.1, hm.2.2⟩
theorem swipe (w : World) (g : Nat) (l : List AskV) (ks : Nat → BitVec 64) (h : ScrAt w g (wsOf l) ks) :
    Calls Try.prog 17 #[.pointer (some ⟨g, 0, none⟩)] w fun e w' => e = .returned (.tuple #[]) ∧ ScrAt w' g (wsOf (l ++ [⟨2, 0, 0#64⟩])) ks ∧ Only w w' g :=
  (wipe_any g 0 _ [] (arr 16 ks ++ []) (wsOf l) rfl w h).mono fun e w' hm => ⟨hm.1, by rw [wsOf_wipe]; exact hm.2.1, hm.2.2⟩
theorem smark (n : Int) (w : World) (g : Nat) (ws : Nat → BitVec 64) (l : List AskV) (h : ScrAt w g ws (ksOf l)) :
    Calls Try.prog 12 #[.pointer (some ⟨g, 16, none⟩), .int .i64 n] w fun e w' => e = .returned (.tuple #[.int .u64 (uv (valAt (ksOf (l ++ askAt 3 n 1#64)) n)), .int .i64 (codeOf n)]) ∧ ScrAt w' g ws (ksOf (l ++ askAt 3 n 1#64)) ∧ Only w w' g := by
  rcases in_or_out n with ⟨y, rfl, hy⟩ | ho
  · have e : ksOf (l ++ askAt 3 (y : Int) 1#64) = upd (ksOf l) y (ksOf l y + 1#64) := by rw [askAt_in _ _ _ hy, ksOf_snoc]; rfl
    rw [valAt_in _ hy, codeOf_nat hy, e, upd_same]
    exact (mark_in g 16 y _ (arr 16 ws) [] (ksOf l) hy (by rw [arr_length]) w h).mono fun e w' hm => hm
  · rw [valAt_out _ ho, codeOf_out' ho, askAt_out _ _ _ ho, List.append_nil]
    refine (mark_out _ n ho w).mono ?_
    rintro e w' ⟨rfl, rfl⟩
    exact ⟨rfl, h, Only.refl _ _⟩
end

/-- one call of a script, as it came in -/
structure OpS where
  kind : Int
  on : Int
  slot : Int
  n : BitVec 64
  ns : List (BitVec 64)
  A : Option Addr
  cap : Nat
def op0 : OpS := ⟨0, 0, 0, 0#64, [], none, 0⟩
def opc (x : OpS) : List Value := [.int .i64 x.kind, .int .i64 x.on, .int .i64 x.slot, .int .u64 (uv x.n), .slice x.A x.ns.length x.cap]
def opVal (x : OpS) : Value := .agg #[.int .i64 x.kind, .int .i64 x.on, .int .i64 x.slot, .int .u64 (uv x.n), .slice x.A x.ns.length x.cap]
def OpOk (w : World) (x : OpS) : Prop := x.ns.length * 8 ≤ 140737488351232 ∧ Sl w x.A (words x.ns)
def OpAt (w : World) (b o : Nat) (x : OpS) : Prop :=
  w.cell? ⟨b, o, none⟩ = some (.int .i64 x.kind) ∧ w.cell? ⟨b, o + 1, none⟩ = some (.int .i64 x.on) ∧ w.cell? ⟨b, o + 2, none⟩ = some (.int .i64 x.slot) ∧
  w.cell? ⟨b, o + 3, none⟩ = some (.int .u64 (uv x.n)) ∧ w.cell? ⟨b, o + 4, none⟩ = some (.slice x.A x.ns.length x.cap) ∧ (Lit.int .i64 x.on).wf = true
theorem OpAt.below {w w' : World} {b o : Nat} {x : OpS} (h : OpAt w b o x) (hb : b < w.heap.size) (hbl : Below w.heap.size w w') : OpAt w' b o x := by
  obtain ⟨h0, h1, h2, h3, h4, h5⟩ := h
  exact ⟨(hbl.cell hb).trans h0, (hbl.cell hb).trans h1, (hbl.cell hb).trans h2, (hbl.cell hb).trans h3, (hbl.cell hb).trans h4, h5⟩
/-- a script that came in -/
def RdOps (w : World) (v : Value) (l : List OpS) : Prop :=
  (∃ A c, v = .slice A l.length c ∧ l.length ≤ c ∧ (0 < l.length → ∃ b o, A = some ⟨b, o, none⟩ ∧ b < w.heap.size ∧ ∀ i, i < l.length → OpAt w b (o + i * 5) (l.getD i op0) ∧ OpOk w (l.getD i op0))) ∧ l.length * 8 ≤ 140737488351232

theorem exists_list {α : Type} (d : α) (P : Nat → α → Prop) : ∀ n, (∀ i, i < n → ∃ x, P i x) → ∃ l : List α, l.length = n ∧ ∀ i, i < n → P i (l.getD i d)
  | 0, _ => ⟨[], rfl, fun i hi => absurd hi (by omega)⟩
  | n + 1, h => by
    obtain ⟨l, hl, hp⟩ := exists_list d P n fun i hi => h i (by omega)
    obtain ⟨x, hx⟩ := h n (by omega)
    refine ⟨l ++ [x], by simp [hl], fun i hi => ?_⟩
    rw [List.getD_eq_getElem?_getD]
    by_cases hn : i < n
    · rw [List.getElem?_append_left (by omega), ← List.getD_eq_getElem?_getD]; exact hp i hn
    · obtain rfl : i = n := by omega
      rw [List.getElem?_append_right (by omega), hl]; simpa using hx

theorem op_bytes : Try.prog.bytesOf 51 = 56 := by kernel_rfl

theorem open_ops {H : Type} {enc : TypeId × Value → H} {w : World} {base : Nat} {spare : Nat → Bool} {held : Bool} {fuel : Nat} {v : Value} {x : DataW H × List MemPlace}
    (h : DataW.trod enc Try.prog w base spare held fuel 43 [v] = some x) (hsz : ∀ y ∈ DataW.weights Try.prog 43 x.1, y ≤ reachBytes) : ∃ l, RdOps w v l := by
  obtain ⟨A, n, c, rfl, hnc, hw, _, hc⟩ := open_structs Try.underlying43 Try.underlying51 (by kernel_rfl) (by kernel_rfl) (by rw [op_bytes]; omega) (by decide) h hsz
  rw [op_bytes] at hw
  by_cases hp : 0 < n
  · obtain ⟨b, o, rfl, hb, hcell⟩ := hc hp
    obtain ⟨l, hll, hlp⟩ := exists_list op0 (fun i x => OpAt w b (o + i * 5) x ∧ OpOk w x) n fun i hi => by
      obtain ⟨u0, y0, k0, c0, t0, _⟩ := hcell i hi 0 _ rfl
      obtain ⟨u1, y1, k1, c1, t1, _⟩ := hcell i hi 1 _ rfl
      obtain ⟨u2, y2, k2, c2, t2, _⟩ := hcell i hi 2 _ rfl
      obtain ⟨u3, y3, k3, c3, t3, _⟩ := hcell i hi 3 _ rfl
      obtain ⟨u4, y4, k4, c4, t4, z4, _⟩ := hcell i hi 4 _ rfl
      obtain ⟨n0, rfl, w0⟩ := int_cell Try.underlying3 t0
      obtain ⟨n1, rfl, w1⟩ := int_cell Try.underlying3 t1
      obtain ⟨n2, rfl, w2⟩ := int_cell Try.underlying3 t2
      obtain ⟨n3, rfl, w3⟩ := int_cell Try.underlying27 t3
      obtain ⟨v3, rfl⟩ := uv_of_wf w3
      obtain ⟨ns, hns, _⟩ := open_numbers Try.underlying22 Try.underlying27 (by kernel_rfl) (by kernel_rfl) t4 z4
      obtain ⟨us, ⟨⟨A6, cc, rfl, hcc, hs6⟩, hm6⟩, _⟩ := hns.words
      exact ⟨⟨n0, n1, n2, v3, us, A6, cc⟩, ⟨c0, c1, c2, c3, c4, w1⟩, hm6, hs6⟩
    exact ⟨l, ⟨some ⟨b, o, none⟩, c, by rw [hll], by omega, fun _ => ⟨b, o, rfl, hb, fun i hi => hlp i (by omega)⟩⟩, by omega⟩
  · obtain rfl : n = 0 := by omega
    exact ⟨[], ⟨A, c, rfl, Nat.zero_le _, fun h => absurd h (by simp)⟩, by simp⟩

end Go.Proofs.Ytkgiiahkednpmaa
