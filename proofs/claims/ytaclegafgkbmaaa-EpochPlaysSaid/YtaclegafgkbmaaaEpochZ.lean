/-
  Layer 17: awake; what stays true of a clock's numbers; a script that came in. Conditions: none.
-/
import Derived.Test.YtaclegafgkbmaaaEpochY
namespace Go.Proofs.Ytaclegafgkbmaaa
open Go.RowKit Go.ChangeShapes Go.WideShapes Go.ChangeAt Go.Deep

theorem enI_length (now : Int) (ins : List Int) (h : Int) : (enI now ins h).length = ins.length := by unfold enI; split <;> simp
theorem lvI_length (ins ws : List Int) : (lvI ins ws).length = ins.length := by
  unfold lvI; split
  · exact clr_length ins ws
  · rfl
def Pos (ins : List Int) : Prop := ∀ x ∈ ins, 0 ≤ x
theorem Pos.at_ {ins : List Int} (h : Pos ins) (k : Nat) : 0 ≤ ins.getD k 0 := by
  rw [List.getD_eq_getElem?_getD]
  cases hk : ins[k]? with
  | none => exact Int.le_refl _
  | some x => exact h x (List.mem_of_getElem? hk)
theorem Pos.set {ins : List Int} (h : Pos ins) (k : Nat) (x : Int) (hx : 0 ≤ x) : Pos (ins.set k x) := fun y hy => by
  rcases List.mem_or_eq_of_mem_set hy with h1 | h1
  · exact h y h1
  · omega
theorem Pos.enI {ins : List Int} (h : Pos ins) (now : Int) (hn : 0 ≤ now) (w : Int) : Pos (enI now ins w) := by
  unfold Go.Proofs.Ytaclegafgkbmaaa.enI; split
  · exact h.set _ _ hn
  · exact h
theorem Pos.clr : ∀ (ws ins : List Int), Pos ins → Pos (clr ins ws) := by
  intro ws
  induction ws with
  | nil => intro ins h; exact h
  | cons x r ih => intro ins h; exact ih _ (h.set _ _ (Int.le_refl _))
theorem Pos.lvI {ins : List Int} (h : Pos ins) (ws : List Int) : Pos (lvI ins ws) := by
  unfold Go.Proofs.Ytaclegafgkbmaaa.lvI; split
  · exact Pos.clr ws ins h
  · exact h

set_option maxRecDepth 100000 in
set_option maxHeartbeats 2000000 in
theorem awake_any (w : World) :
    Calls Try.prog 7 #[] w fun e w' => e = .returned (.bool true) ∧ Below w.heap.size w w' := by
  go_enter Try.func7, Try.ntmps7
  go_wp2_with fail
  refine (new_ok w 2 (by omega) (by omega)).mono ?_
  rintro e w1 ⟨g, gi, rfl, hg, hgi, h1, b1⟩
  have C1 : Hid (ClockAt w1 g gi 1 [0, 0]) := Lib.hid h1
  have B1 := Lib.hid b1
  clear h1 b1
  go_wp2_with fail
  refine (enter_any w1 g gi 1 [0, 0] 0 (by decide) C1.out).mono ?_
  rintro e w2 ⟨rfl, h2, n2⟩
  have C2 : Hid (ClockAt w2 g gi 1 [1, 0]) := Lib.hid h2
  have B2 : Hid (Below w.heap.size w w2) := Lib.hid (Only.below B1.out n2 B1.out.size hgi)
  rw [show enV 1 [0, 0] 0 = 1 from by decide, show enC [0, 0] 0 = 0 from by decide]
  clear h2 n2
  go_wp2_with fail
  refine (advance_any w2 g gi 1 [1, 0] (by omega) (by omega) C2.out).mono ?_
  rintro e w3 ⟨rfl, h3, n3⟩
  have C3 : Hid (ClockAt w3 g gi 2 [1, 0]) := Lib.hid h3
  have B3 : Hid (Below w.heap.size w w3) := Lib.hid (Only.below B2.out n3 B2.out.size hg)
  clear h3 n3
  go_wp2_with fail
  refine (safe_any w3 g gi 2 [1, 0] 2 (by decide) C3.out).mono ?_
  rintro e w4 ⟨rfl, rfl⟩
  rw [show safeV [1, 0] 2 = false from by decide]
  go_wp2_with fail
  refine (safe_any w3 g gi 2 [1, 0] 1 (by decide) C3.out).mono ?_
  rintro e w4 ⟨rfl, rfl⟩
  rw [show safeV [1, 0] 1 = true from by decide]
  go_wp2_with fail
  go_ret
  exact ⟨rfl, B3.out⟩

/-- one call of a script, as it came in -/
structure OpE where
  kind : Int
  wk : Int
  ws : List Int
  A : Option Addr
  cap : Nat
def op0 : OpE := ⟨0, 0, [], none, 0⟩
def opc (x : OpE) : List Value := [.int .i64 x.kind, .int .i64 x.wk, .slice x.A x.ws.length x.cap]
def OpOk (w : World) (x : OpE) : Prop := x.ws.length * 8 ≤ 140737488351232 ∧ Sl w x.A (iarr x.ws) ∧ ∀ p, x.A = some p → 0 < x.ws.length → p.block < w.heap.size
def OpAt (w : World) (b o : Nat) (x : OpE) : Prop :=
  w.cell? ⟨b, o, none⟩ = some (.int .i64 x.kind) ∧ w.cell? ⟨b, o + 1, none⟩ = some (.int .i64 x.wk) ∧ w.cell? ⟨b, o + 2, none⟩ = some (.slice x.A x.ws.length x.cap)
theorem OpAt.below {w w' : World} {b o : Nat} {x : OpE} (h : OpAt w b o x) (hb : b < w.heap.size) (hbl : Below w.heap.size w w') : OpAt w' b o x := by
  obtain ⟨h0, h1, h2⟩ := h
  exact ⟨(hbl.cell hb).trans h0, (hbl.cell hb).trans h1, (hbl.cell hb).trans h2⟩
/-- a script that came in -/
def RdOps (w : World) (v : Value) (l : List OpE) : Prop :=
  (∃ A c, v = .slice A l.length c ∧ l.length ≤ c ∧ (0 < l.length → ∃ b o, A = some ⟨b, o, none⟩ ∧ b < w.heap.size ∧ ∀ i, i < l.length → OpAt w b (o + i * 3) (l.getD i op0) ∧ OpOk w (l.getD i op0))) ∧ l.length * 8 ≤ 140737488351232

theorem exists_list {α : Type} (d : α) (P : Nat → α → Prop) : ∀ n, (∀ i, i < n → ∃ x, P i x) → ∃ l : List α, l.length = n ∧ ∀ i, i < n → P i (l.getD i d)
  | 0, _ => ⟨[], rfl, fun i hi => absurd hi (by omega)⟩
  | n + 1, h => by
    obtain ⟨l, hl, hp⟩ := exists_list d P n fun i hi => h i (by omega)
    obtain ⟨x, hx⟩ := h n (by omega)
    refine ⟨l ++ [x], by simp [hl], fun i hi => ?_⟩
    rw [List.getD_eq_getElem?_getD]
    by_cases hn : i < n
    · rw [List.getElem?_append_left (by omega), ← List.getD_eq_getElem?_getD]; exact hp i hn
    · obtain rfl : i = n := by omega
      rw [List.getElem?_append_right (by omega), hl]; simpa using hx

theorem op_bytes : Try.prog.bytesOf 30 = 40 := by kernel_rfl

theorem open_ops {H : Type} {enc : TypeId × Value → H} {w : World} {base : Nat} {spare : Nat → Bool} {held : Bool} {fuel : Nat} {v : Value} {x : DataW H × List MemPlace}
    (h : DataW.trod enc Try.prog w base spare held fuel 22 [v] = some x) (hsz : ∀ y ∈ DataW.weights Try.prog 22 x.1, y ≤ reachBytes) : ∃ l, RdOps w v l := by
  obtain ⟨A, n, c, rfl, hnc, hw, _, hc⟩ := open_structs Try.underlying22 Try.underlying30 (by kernel_rfl) (by kernel_rfl) (by rw [op_bytes]; omega) (by decide) h hsz
  rw [op_bytes] at hw
  by_cases hp : 0 < n
  · obtain ⟨b, o, rfl, hb, hcell⟩ := hc hp
    obtain ⟨l, hll, hlp⟩ := exists_list op0 (fun i x => OpAt w b (o + i * 3) x ∧ OpOk w x) n fun i hi => by
      obtain ⟨u0, y0, k0, c0, t0, _⟩ := hcell i hi 0 _ rfl
      obtain ⟨u1, y1, k1, c1, t1, _⟩ := hcell i hi 1 _ rfl
      obtain ⟨u2, y2, k2, c2, t2, z2, _⟩ := hcell i hi 2 _ rfl
      obtain ⟨n0, rfl, w0⟩ := int_cell Try.underlying3 t0
      obtain ⟨n1, rfl, w1⟩ := int_cell Try.underlying3 t1
      obtain ⟨ns, ⟨⟨A6, cc, rfl, hcc, hs6⟩, _, hm6⟩, _⟩ := open_numbers Try.underlying28 Try.underlying3 (by kernel_rfl) (by kernel_rfl) t2 z2
      refine ⟨⟨n0, n1, ns, A6, cc⟩, ⟨c0, c1, c2⟩, hm6, hs6, fun p hp h0 => ?_⟩
      obtain ⟨b', o', e, hcl⟩ := sl_iarr (ns := ns) hs6 h0
      have hpe : some p = some ⟨b', o', none⟩ := hp.symm.trans e
      injection hpe with hpe
      subst hpe
      exact cell_lt (hcl 0 h0)
    exact ⟨l, ⟨some ⟨b, o, none⟩, c, by rw [hll], by omega, fun _ => ⟨b, o, rfl, hb, fun i hi => hlp i (by omega)⟩⟩, by omega⟩
  · obtain rfl : n = 0 := by omega
    exact ⟨[], ⟨A, c, rfl, Nat.zero_le _, fun h => absurd h (by simp)⟩, by simp⟩

end Go.Proofs.Ytaclegafgkbmaaa
