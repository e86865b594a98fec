/-
  What an argument that came in reads as: numbers, slices of numbers. Conditions: the form's own reach.
-/
import Derived.Test.YtchlokhmcadgaaaSl
import Derived.ProofKit
import Derived.OpenShut
import Derived.SizedLaws
namespace Go.Proofs.Ytchlokhmcadgaaa
open Go.RowKit Go.ChangeShapes Go.WideShapes Go.ChangeAt

theorem reach_eq : reachBytes = 140737488351232 := rfl

/-- a slice that came in reads as the numbers ns -/
def RdInts (k : IntKind) (w : World) (v : Value) (ns : List Int) : Prop :=
  (∃ A c, v = .slice A ns.length c ∧ ns.length ≤ c ∧ Sl w A (ns.map (Value.int k))) ∧ (∀ n ∈ ns, (Lit.int k n).wf = true) ∧ ns.length * 8 ≤ 140737488351232

def RdWords (w : World) (v : Value) (us : List (BitVec 64)) : Prop :=
  (∃ A c, v = .slice A us.length c ∧ us.length ≤ c ∧ Sl w A (words us)) ∧ us.length * 8 ≤ 140737488351232

theorem words_of_wf : ∀ (ns : List Int), (∀ n ∈ ns, (Lit.int .u64 n).wf = true) → ∃ us : List (BitVec 64), ns = us.map uv
  | [], _ => ⟨[], rfl⟩
  | n :: r, h => by
    obtain ⟨u, hu⟩ := uv_of_wf (h n (by simp))
    obtain ⟨us, hus⟩ := words_of_wf r fun m hm => h m (by simp [hm])
    exact ⟨u :: us, by simp [← hu, ← hus]⟩

theorem RdInts.words {w : World} {v : Value} {ns : List Int} (h : RdInts .u64 w v ns) : ∃ us, RdWords w v us ∧ ns = us.map uv := by
  obtain ⟨⟨A, c, rfl, hc, hs⟩, hw, hr⟩ := h
  obtain ⟨us, rfl⟩ := words_of_wf ns hw
  refine ⟨us, ⟨⟨A, c, by simp, by simpa using hc, ?_⟩, by simpa using hr⟩, rfl⟩
  rw [← uv_words (us.map uv) us rfl]
  exact hs

/-- how many elements the datum of a slice has -/
def DLen {H : Type} (d : DataW H) (n : Nat) : Prop := (d = .nil ∧ n = 0) ∨ ∃ elems spare, d = .slice elems spare ∧ elems.length = n

section
variable {H : Type} {enc : TypeId × Value → H} {P : Program} {w : World} {base : Nat} {spare : Nat → Bool} {held : Bool}

theorem addr_add (a : Addr) (h : a.spot = none) (i : Nat) : a.add i = ⟨a.block, a.off + i, none⟩ := by
  obtain ⟨b, o, s⟩ := a
  simp only at h
  subst h
  unfold Addr.add
  split <;> simp_all

theorem spot_of_cell {a : Addr} {v : Value} (h : w.cell? a = some v) : a.spot = none := by
  unfold World.cell? at h
  split at h
  · split at h
    · cases h
    · rename_i hs; simpa using hs
  · cases h

theorem open_numbers {t e : TypeId} {k : IntKind} {fuel : Nat} {v : Value} {x : DataW H × List MemPlace} (ht : P.underlying t = some (.slice e)) (he : P.underlying e = some (.int k)) (hC : P.cellsOf e = 1)
    (hB : P.bytesOf e = 8) (h : DataW.trod enc P w base spare held fuel t [v] = some x) (hsz : ∀ y ∈ DataW.weights P t x.1, y ≤ reachBytes) : ∃ ns, RdInts k w v ns ∧ DLen x.1 ns.length := by
  rcases open_ints ht he hC h with ⟨hcs, hx0⟩ | ⟨a, len, cap, zs, hcs, _, hl, hm, hz, hx, hcell, hwz⟩
  · obtain rfl : v = .slice none 0 0 := by simpa using hcs
    exact ⟨[], ⟨⟨none, 0, rfl, by simp, Sl.nil _ _⟩, by simp, by simp⟩, .inl ⟨by rw [hx0], rfl⟩⟩
  · obtain rfl : v = .slice (some a) len cap := by simpa using hcs
    have hzl : len ≤ zs.length := by rw [hz]; split <;> omega
    have hlen : (zs.take len).length = len := by rw [List.length_take]; omega
    have hw : (lits (H := H) k (zs.take len)).length * 8 ≤ reachBytes := by
      have := hsz (((lits (H := H) k (zs.take len)).length + (lits (H := H) k (zs.drop len)).length) * 8) (by rw [hx]; simp [DataW.weights, ht, hB])
      omega
    rw [reach_eq] at hw
    refine ⟨zs.take len, ⟨⟨some a, cap, by rw [hlen], by omega, fun hp => ?_⟩, fun n hn => hwz n (List.mem_of_mem_take hn), by simpa [lits] using hw⟩, .inr ⟨_, _, by rw [hx], by simp [lits]⟩⟩
    have h0 := hcell 0 (by rw [List.length_map, hlen] at hp; omega)
    have hs : a.spot = none := by
      have := spot_of_cell h0
      unfold Addr.add at this
      split at this
      · exact this
      · simp_all
    refine ⟨a.block, a.off, by rw [← hs], fun j hj => ?_⟩
    have hj' : j < len := by rw [List.length_map, hlen] at hj; exact hj
    have hc := hcell j (by omega)
    rw [addr_add a hs] at hc
    rw [hc]
    simp only [List.getD_eq_getElem?_getD, List.getElem?_map, List.getElem?_take, if_pos hj']
    rw [List.getElem?_eq_getElem (show j < zs.length by omega)]
    rfl

end

end Go.Proofs.Ytchlokhmcadgaaa
