/-
  What a script of calls that came in reads as. Conditions: the form's own reach.
-/
import Derived.Test.YtkjffhlnghgkoaaStatsP
namespace Go.Proofs.Ytkjffhlnghgkoaa
open Go.RowKit Go.ChangeShapes Go.WideShapes Go.ChangeAt Go.Deep

theorem exists_list {α : Type} (d : α) (P : Nat → α → Prop) : ∀ n, (∀ i, i < n → ∃ x, P i x) → ∃ l : List α, l.length = n ∧ ∀ i, i < n → P i (l.getD i d)
  | 0, _ => ⟨[], rfl, fun i hi => absurd hi (by omega)⟩
  | n + 1, h => by
    obtain ⟨l, hl, hp⟩ := exists_list d P n fun i hi => h i (by omega)
    obtain ⟨x, hx⟩ := h n (by omega)
    refine ⟨l ++ [x], by simp [hl], fun i hi => ?_⟩
    rw [List.getD_eq_getElem?_getD]
    by_cases hn : i < n
    · rw [List.getElem?_append_left (by omega), ← List.getD_eq_getElem?_getD]; exact hp i hn
    · obtain rfl : i = n := by omega
      rw [List.getElem?_append_right (by omega), hl]; simpa using hx

def op0 : OpV := ⟨0, 0, 0, 0#64, 0#64, 0#64, [], none, 0⟩
/-- what one call of a script needs of the world it is told in -/
def OpOk (w : World) (o : OpV) : Prop := o.hs.length * 8 ≤ 140737488351232 ∧ o.hs.length ≤ o.cap ∧ Sl w o.A (intsV o.hs)
def OpAt (w : World) (b o : Nat) (x : OpV) : Prop :=
  w.cell? ⟨b, o, none⟩ = some (.int .i64 x.kind) ∧ w.cell? ⟨b, o + 1, none⟩ = some (.int .i64 x.on) ∧ w.cell? ⟨b, o + 2, none⟩ = some (.int .i64 x.hook) ∧
  w.cell? ⟨b, o + 3, none⟩ = some (.int .u64 (uv x.s)) ∧ w.cell? ⟨b, o + 4, none⟩ = some (.int .u64 (uv x.c)) ∧ w.cell? ⟨b, o + 5, none⟩ = some (.int .u64 (uv x.r)) ∧
  w.cell? ⟨b, o + 6, none⟩ = some (.slice x.A x.hs.length x.cap) ∧ (Lit.int .i64 x.on).wf = true
/-- a script that came in -/
def RdOps (w : World) (v : Value) (l : List OpV) : Prop :=
  (∃ A c, v = .slice A l.length c ∧ l.length ≤ c ∧ (0 < l.length → ∃ b o, A = some ⟨b, o, none⟩ ∧ b < w.heap.size ∧ ∀ i, i < l.length → OpAt w b (o + i * 7) (l.getD i op0) ∧ OpOk w (l.getD i op0))) ∧ l.length * 8 ≤ 140737488351232

theorem op_bytes : Try.prog.bytesOf 37 = 72 := by kernel_rfl

theorem open_ops_in {H : Type} {enc : TypeId × Value → H} {w : World} {base : Nat} {spare : Nat → Bool} {held : Bool} {fuel : Nat} {v : Value} {x : DataW H × List MemPlace}
    (h : DataW.trod enc Try.prog w base spare held fuel 30 [v] = some x) (hsz : ∀ y ∈ DataW.weights Try.prog 30 x.1, y ≤ reachBytes) : ∃ l, RdOps w v l ∧ ∀ i, i < l.length → ∃ d, PartOf d x.1 ∧ DLen d (l.getD i op0).hs.length := by
  obtain ⟨A, n, c, rfl, hnc, hw, _, hc⟩ := open_structs Try.underlying30 Try.underlying37 (by kernel_rfl) (by kernel_rfl) (by rw [op_bytes]; omega) (by decide) h hsz
  rw [op_bytes] at hw
  by_cases hp : 0 < n
  · obtain ⟨b, o, rfl, hb, hcell⟩ := hc hp
    obtain ⟨l, hll, hlp⟩ := exists_list op0 (fun i z => (OpAt w b (o + i * 7) z ∧ OpOk w z) ∧ ∃ d, PartOf d x.1 ∧ DLen d z.hs.length) n fun i hi => by
      obtain ⟨u0, y0, k0, c0, t0, _⟩ := hcell i hi 0 _ rfl
      obtain ⟨u1, y1, k1, c1, t1, _⟩ := hcell i hi 1 _ rfl
      obtain ⟨u2, y2, k2, c2, t2, _⟩ := hcell i hi 2 _ rfl
      obtain ⟨u3, y3, k3, c3, t3, _⟩ := hcell i hi 3 _ rfl
      obtain ⟨u4, y4, k4, c4, t4, _⟩ := hcell i hi 4 _ rfl
      obtain ⟨u5, y5, k5, c5, t5, _⟩ := hcell i hi 5 _ rfl
      obtain ⟨u6, y6, k6, c6, t6, z6, p6⟩ := hcell i hi 6 _ rfl
      obtain ⟨n0, rfl, w0⟩ := int_cell Try.underlying3 t0
      obtain ⟨n1, rfl, w1⟩ := int_cell Try.underlying3 t1
      obtain ⟨n2, rfl, w2⟩ := int_cell Try.underlying3 t2
      obtain ⟨n3, rfl, w3⟩ := int_cell Try.underlying24 t3
      obtain ⟨n4, rfl, w4⟩ := int_cell Try.underlying24 t4
      obtain ⟨n5, rfl, w5⟩ := int_cell Try.underlying24 t5
      obtain ⟨v3, rfl⟩ := uv_of_wf w3
      obtain ⟨v4, rfl⟩ := uv_of_wf w4
      obtain ⟨v5, rfl⟩ := uv_of_wf w5
      obtain ⟨ns, ⟨⟨A6, cc, rfl, hcc, hs6⟩, _, hm6⟩, dl⟩ := open_numbers Try.underlying35 Try.underlying3 (by kernel_rfl) (by kernel_rfl) t6 z6
      exact ⟨⟨n0, n1, n2, v3, v4, v5, ns, A6, cc⟩, ⟨⟨c0, c1, c2, c3, c4, c5, c6, w1⟩, hm6, hcc, hs6⟩, _, p6, dl⟩
    exact ⟨l, ⟨⟨some ⟨b, o, none⟩, c, by rw [hll], by omega, fun _ => ⟨b, o, rfl, hb, fun i hi => (hlp i (by omega)).1⟩⟩, by omega⟩, fun i hi => (hlp i (by omega)).2⟩
  · obtain rfl : n = 0 := by omega
    exact ⟨[], ⟨⟨A, c, rfl, Nat.zero_le _, fun h => absurd h (by simp)⟩, by simp⟩, fun i hi => absurd hi (by simp)⟩

theorem open_ops {H : Type} {enc : TypeId × Value → H} {w : World} {base : Nat} {spare : Nat → Bool} {held : Bool} {fuel : Nat} {v : Value} {x : DataW H × List MemPlace}
    (h : DataW.trod enc Try.prog w base spare held fuel 30 [v] = some x) (hsz : ∀ y ∈ DataW.weights Try.prog 30 x.1, y ≤ reachBytes) : ∃ l, RdOps w v l := by
  obtain ⟨l, hl, _⟩ := open_ops_in h hsz
  exact ⟨l, hl⟩

/-- tell, whatever the call -/
theorem tell_code (g : Nat) (H : Nat → BitVec 64) (o : OpV) (w : World) (hob : StatAt w g H) (hok : OpOk w o) :
    Calls Try.prog 12 #[.pointer (some ⟨g, 0, none⟩), opVal o] w fun e w' => e = .returned (.int .i64 (code o)) ∧ StatAt w' g (eff o H) ∧ Only w w' g := by
  by_cases hk : o.kind = 0
  · exact tell_run g H o hk w hob
  · exact tell_miss g H o hk w hob hok.1 hok.2.2
theorem tell_any (g : Nat) (H : Nat → BitVec 64) (o : OpV) (w : World) (hob : StatAt w g H) (hok : OpOk w o) :
    Calls Try.prog 12 #[.pointer (some ⟨g, 0, none⟩), opVal o] w fun e w' => (∃ x, e = .returned (.int .i64 x)) ∧ StatAt w' g (eff o H) ∧ Only w w' g :=
  (tell_code g H o w hob hok).mono fun _ _ h => ⟨⟨_, h.1⟩, h.2⟩

end Go.Proofs.Ytkjffhlnghgkoaa
