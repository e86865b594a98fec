/-
  The walk of the law StatsAdds. Conditions: none.
-/
import Derived.Test.YtkjffhlnghgkoaaStatsA
import Derived.Test.YtkjffhlnghgkoaaOpenS
namespace Go.Proofs.Ytkjffhlnghgkoaa
open Go.RowKit

attribute [local go_sem] uv_nonneg uv_wrap uv_add uv_sub uv_add1 uv_sub1

/-- a slice of tallies that came in -/
def RdTlys (w : World) (v : Value) (l : List Tly) : Prop :=
  (∃ A c, v = .slice A l.length c ∧ l.length ≤ c ∧ (0 < l.length → ∃ b o, A = some ⟨b, o, none⟩ ∧ b < w.heap.size ∧ TlysAt w b o l)) ∧ l.length * 40 ≤ 140737488351232

theorem open_tlys {H : Type} {enc : TypeId × Value → H} {w : World} {base : Nat} {spare : Nat → Bool} {held : Bool} {fuel : Nat} {v : Value} {x : DataW H × List MemPlace}
    (h : DataW.trod enc Try.prog w base spare held fuel 22 [v] = some x) (hsz : ∀ y ∈ DataW.weights Try.prog 22 x.1, y ≤ reachBytes) : ∃ l, RdTlys w v l := by
  obtain ⟨A, n, c, rfl, hnc, hw, hl, hc⟩ := open_structs Try.underlying22 Try.underlying26 (by kernel_rfl) (by kernel_rfl) (by rw [show Try.prog.bytesOf 26 = 40 from by kernel_rfl]; omega) (by decide) h hsz
  rw [show Try.prog.bytesOf 26 = 40 from by kernel_rfl] at hw
  by_cases hp : 0 < n
  · obtain ⟨b, o, rfl, hb, hcell⟩ := hc hp
    refine ⟨(List.range n).map fun i => fun j => bvAt w ⟨b, o + i * 5 + j, none⟩, ⟨some ⟨b, o, none⟩, c, by simp, by simpa using hnc, fun _ => ⟨b, o, rfl, hb, fun i hi j hj => ?_⟩⟩, by simpa using hw⟩
    have hi' : i < n := by simpa using hi
    have hg : ((List.range n).map fun i => fun j => bvAt w ⟨b, o + i * 5 + j, none⟩).getD i z5 = fun j => bvAt w ⟨b, o + i * 5 + j, none⟩ := by
      simp [List.getD_eq_getElem?_getD, hi']
    rw [hg]
    have hfield : ∃ n, w.cell? ⟨b, o + i * 5 + j, none⟩ = some (.int .u64 n) ∧ (Lit.int .u64 n).wf = true := by
      match j, hj with
      | 0, _ => obtain ⟨u, y, k, hc, htr, _⟩ := hcell i hi' 0 _ rfl; obtain ⟨n, rfl, hwf⟩ := int_cell Try.underlying24 htr; exact ⟨n, hc, hwf⟩
      | 1, _ => obtain ⟨u, y, k, hc, htr, _⟩ := hcell i hi' 1 _ rfl; obtain ⟨n, rfl, hwf⟩ := int_cell Try.underlying24 htr; exact ⟨n, hc, hwf⟩
      | 2, _ => obtain ⟨u, y, k, hc, htr, _⟩ := hcell i hi' 2 _ rfl; obtain ⟨n, rfl, hwf⟩ := int_cell Try.underlying24 htr; exact ⟨n, hc, hwf⟩
      | 3, _ => obtain ⟨u, y, k, hc, htr, _⟩ := hcell i hi' 3 _ rfl; obtain ⟨n, rfl, hwf⟩ := int_cell Try.underlying24 htr; exact ⟨n, hc, hwf⟩
      | 4, _ => obtain ⟨u, y, k, hc, htr, _⟩ := hcell i hi' 4 _ rfl; obtain ⟨n, rfl, hwf⟩ := int_cell Try.underlying24 htr; exact ⟨n, hc, hwf⟩
    obtain ⟨n, hc, hwf⟩ := hfield
    rw [hc, bvAt_eq hc hwf]
  · obtain rfl : n = 0 := by omega
    exact ⟨[], ⟨A, c, rfl, Nat.zero_le _, fun h => absurd h (by simp)⟩, by simp⟩

/-- tallies as cells -/
def tcells (l : List Tly) : List Value := l.flatMap fun f => arr 5 f
theorem tcells_length (l : List Tly) : (tcells l).length = l.length * 5 := by
  induction l with
  | nil => rfl
  | cons f r ih => simp only [tcells, List.flatMap_cons, List.length_append, arr_length, List.length_cons] at ih ⊢; omega
theorem tcells_get : ∀ (l : List Tly) (i j : Nat), i < l.length → j < 5 → (tcells l)[i * 5 + j]? = some (.int .u64 (uv (l.getD i z5 j)))
  | f :: r, 0, j, _, hj => by
    simp only [tcells, List.flatMap_cons, Nat.zero_mul, Nat.zero_add]
    rw [List.getElem?_append_left (by rw [arr_length]; exact hj), arr_get 5 f j hj]
    rfl
  | f :: r, i + 1, j, hi, hj => by
    simp only [tcells, List.flatMap_cons]
    rw [List.getElem?_append_right (by rw [arr_length]; omega), arr_length, show (i + 1) * 5 + j - 5 = i * 5 + j from by omega]
    exact tcells_get r i j (by simpa using hi) hj
theorem tcells_one (l : List Tly) : ∀ u ∈ tcells l, u.oneCell' = true := by
  intro u hu
  simp only [tcells, List.mem_flatMap] at hu
  obtain ⟨f, _, hf⟩ := hu
  exact arr_one 5 f u hf
theorem sl_of_tlys {w : World} {b o : Nat} {l : List Tly} (h : TlysAt w b o l) : Sl w (some ⟨b, o, none⟩) (tcells l) :=
  Sl.mk fun k hk => by
    rw [tcells_length] at hk
    have h1 := h (k / 5) (by omega) (k % 5) (by omega)
    have h2 := tcells_get l (k / 5) (k % 5) (by omega) (by omega)
    rw [show k / 5 * 5 + k % 5 = k from by omega] at h2
    rw [show o + k / 5 * 5 + k % 5 = o + k from by omega] at h1
    rw [h1, show (tcells l).getD k undef = .int .u64 (uv (l.getD (k / 5) z5 (k % 5))) from by rw [List.getD_eq_getElem?_getD, h2]; rfl]
theorem tlys_of_sl {w : World} {b o : Nat} {l : List Tly} (h : ∀ j, j < (tcells l).length → w.cell? ⟨b, o + j, none⟩ = some ((tcells l).getD j undef)) : TlysAt w b o l := fun i hi j hj => by
  have h1 := h (i * 5 + j) (by rw [tcells_length]; omega)
  rw [Nat.add_assoc, h1, List.getD_eq_getElem?_getD, tcells_get l i j hi hj]
  rfl
theorem TlysAt.below {w w' : World} {b o : Nat} {l : List Tly} (h : TlysAt w b o l) (hb : b < w.heap.size) (hbl : Below w.heap.size w w') : TlysAt w' b o l := fun i hi j hj => by
  rw [hbl.cell hb]; exact h i hi j hj

theorem tly_info : (Try.prog.info? 26).map (fun i => (i.zero, i.size, i.bytes)) = some (some (.agg #[.int .u64 0, .int .u64 0, .int .u64 0, .int .u64 0, .int .u64 0]), 5, 40) := by kernel_rfl

theorem add_nil (A : Option Addr) (c : Nat) (w : World) :
    Calls Try.prog 7 #[.slice A 0 c] w fun e w' => e = .returned (.agg #[.int .u64 0, .int .u64 0, .int .u64 0, .int .u64 0, .int .u64 0]) ∧ Below w.heap.size w w' := by
  have e : tVal z5 = .agg #[.int .u64 0, .int .u64 0, .int .u64 0, .int .u64 0, .int .u64 0] := by kernel_rfl
  rw [← e]
  exact add_none A c w

set_option maxRecDepth 100000 in
set_option maxHeartbeats 2000000 in
theorem adds_some (l : List Tly) (b o c n : Nat) (hn : n = l.length) (hp : 0 < n) (hm : n * 40 ≤ 140737488351232) (w : World) (hs : TlysAt w b o l) (hbl : b < w.heap.size) :
    Calls Try.prog 3 #[.slice (some ⟨b, o, none⟩) n c] w fun e w' => e = .returned (.bool true) ∧ Below w.heap.size w w' := by
  obtain ⟨i0, hi0, hz0, hz1, hz2⟩ := info_parts tly_info
  have HS := Lib.hid hs
  have HN := Lib.hid hn
  clear hs hn
  go_enter Try.func3, Try.ntmps3
  go_wp2_with fail
  refine (awake_any w).mono ?_
  rintro e wa ⟨rfl, hba⟩
  have HBA := Lib.hid hba
  clear hba
  have HL : Hid ((tcells l).length = n * 5) := Lib.hid (by rw [tcells_length, HN.out])
  go_wp2_with
    (at_builtin
     refine wpList_append_in _ rfl (.tmp 8) (.tmp 9) _ rfl (below_alloc HBA.out _) 26 i0 _ 5 40 Try.underlying22 hi0 hz0 hz1 hz2 rfl (by omega) _ 0 [] rfl (own_empty HBA.out _ _)
       (some ⟨b, o, none⟩) n c (tcells l) rfl HL.out ((sl_of_tlys HS.out).below (below_alloc HBA.out _)) (tcells_one l) (by omega) (by omega) ?_
     intro v2 w2 hown hb2 g1 g2
     clear g1 g2)
  have hex := own_form hown
  obtain ⟨A2, c2, hv2, hnc2, hcm2, hsl2, hA2⟩ := hex
  simp only [Nat.zero_add, List.nil_append] at hsl2
  obtain ⟨b2, o2, hA2e, hcell2⟩ := hsl2 (by rw [HL.out]; omega)
  have HT2 := Lib.hid (tlys_of_sl hcell2)
  have hb2l : b2 < w2.heap.size := (hA2 _ hA2e).2
  have HB2 := Lib.hid hb2
  rw [hv2, hA2e]
  clear hown hv2 hsl2 hA2 hA2e hcell2 hb2
  have O3 : Hid (Ob (w2.alloc (.cells #[.int .u64 0, .int .u64 0, .int .u64 0, .int .u64 0, .int .u64 0] 26)) w2.heap.size 26 (arr 5 z5)) := Ob.fresh w2 26 (arr 5 z5)
  have T3 := Lib.hid (HT2.out.below hb2l (below_alloc (Below.refl w2.heap.size w2) (.cells #[.int .u64 0, .int .u64 0, .int .u64 0, .int .u64 0, .int .u64 0] 26)))
  have B3 := Lib.hid (below_alloc HB2.out (.cells #[.int .u64 0, .int .u64 0, .int .u64 0, .int .u64 0, .int .u64 0] 26))
  generalize w2.alloc (.cells #[.int .u64 0, .int .u64 0, .int .u64 0, .int .u64 0, .int .u64 0] 26) = w3 at O3 T3 B3 ⊢
  have hqw : w.heap.size ≤ w2.heap.size := HB2.out.size
  generalize w2.heap.size = q at O3 hb2l hqw ⊢
  clear HT2 HB2
  have hbq : b < q := by omega
  go_loopw [5] (fun i wr => ∃ k : Nat, k ≤ n ∧ i = .int .i64 k ∧ Ob wr q 26 ([] ++ (arr 5 (tSum (l.take k)) ++ [])) ∧ Only w3 wr q) (fun i _ => n - (intOf i).toNat)
  case atStart => exact ⟨0, Nat.zero_le _, rfl, O3.out, Only.refl _ _⟩
  case round =>
    obtain ⟨k, hk, rfl, hob, hon⟩ := hrel
    have HOB := Lib.hid hob
    have HON := Lib.hid hon
    clear hob hon
    by_cases hlt : k < n
    · have hkl : k < l.length := by have := HN.out; omega
      have hcell : ∀ j, j < 5 → wr.cell? ⟨b, o + k * 5 + j, none⟩ = some (.int .u64 (uv (l.getD k z5 j))) := fun j hj =>
        HON.out.cell (by rw [B3.out.cell hbl]; exact HS.out k hkl j hj) (by show b ≠ q; omega)
      have f0 : wr.cell? ⟨b, o + k * 5, none⟩ = some (.int .u64 (uv (l.getD k z5 0))) := hcell 0 (by omega)
      have f1 := hcell 1 (by omega)
      have f2 := hcell 2 (by omega)
      have f3 := hcell 3 (by omega)
      have f4 := hcell 4 (by omega)
      have htk := tSum_take l k hkl
      have HT := Lib.hid htk
      clear hcell htk
      generalize l.getD k z5 = f at f0 f1 f2 f3 f4 HT
      generalize tSum (l.take k) = F at HOB HT
      have a0 : wr.cell? ⟨q, 0, none⟩ = some (.int .u64 (uv (F 0))) := HOB.out.cell 0
      have a1 : wr.cell? ⟨q, 1, none⟩ = some (.int .u64 (uv (F 1))) := HOB.out.cell 1
      have a2 : wr.cell? ⟨q, 2, none⟩ = some (.int .u64 (uv (F 2))) := HOB.out.cell 2
      have a3 : wr.cell? ⟨q, 3, none⟩ = some (.int .u64 (uv (F 3))) := HOB.out.cell 3
      have a4 : wr.cell? ⟨q, 4, none⟩ = some (.int .u64 (uv (F 4))) := HOB.out.cell 4
      have z0 : ∀ i, wr.frozen? ⟨q, i, none⟩ = false := HOB.out.frozen
      have g1 : (k : Int) < (n : Int) := by omega
      go_wp2_with fail
      go_region
      go_wp2_with fail
      go_region
      go_wp2_with fail
      go_region
      go_wp2_with fail
      go_region
      go_wp2_with fail
      go_region
      go_wp2_with fail
      refine ⟨⟨k + 1, by omega, by go_num, ?_, ?_⟩, by simp [intOf]; omega⟩
      · rw [HT.out]
        exact ((((((((((HOB.out.put 0 (by omega) (F 0 + f 0)).put 1 (by omega) (F 1 + f 1)).put 2 (by omega) (F 2 + f 2)).put 3 (by omega) (F 3 + f 3)).put 4 (by omega) (F 4 + f 4)).drew).drew).drew).drew).drew)
      · exact ((((((((((HON.out.setCell rfl _).setCell rfl _).setCell rfl _).setCell rfl _).setCell rfl _).drew).drew).drew).drew).drew)
    · have g1 : ¬ (k : Int) < (n : Int) := by omega
      have hkn : k = l.length := by have := HN.out; omega
      subst hkn
      rw [List.take_length] at HOB
      have a0 : wr.cell? ⟨q, 0, none⟩ = some (.int .u64 (uv (tSum l 0))) := HOB.out.cell 0
      have a1 : wr.cell? ⟨q, 1, none⟩ = some (.int .u64 (uv (tSum l 1))) := HOB.out.cell 1
      have a2 : wr.cell? ⟨q, 2, none⟩ = some (.int .u64 (uv (tSum l 2))) := HOB.out.cell 2
      have a3 : wr.cell? ⟨q, 3, none⟩ = some (.int .u64 (uv (tSum l 3))) := HOB.out.cell 3
      have a4 : wr.cell? ⟨q, 4, none⟩ = some (.int .u64 (uv (tSum l 4))) := HOB.out.cell 4
      have hq3 : Below w.heap.size w wr := HON.out.below B3.out (by have := B3.out.size; omega) (by omega)
      have hq3' := Lib.hid hq3
      clear hq3
      have T4 : Hid (TlysAt wr b2 o2 l) := Lib.hid fun i hi j hj => HON.out.cell (T3.out i hi j hj) (by show b2 ≠ q; omega)
      have hqr : q < wr.heap.size := HOB.out.lt
      go_wp2_with fail
      go_region_with
        (first
       | (go_at_call_of 7 (Value.slice (some ⟨b2, o2, none⟩) n c2)
          refine (add_some l b2 o2 c2 _ HN.out (by omega) wr.drew T4.out (by show b2 < wr.heap.size; omega)).mono ?_
          rintro e w5 ⟨rfl, h5⟩
          unfold tVal
          have H5 : Hid (Below wr.heap.size wr w5) := Lib.hid (Below.trans (below_drewN (Below.refl _ wr) 1) h5)
          have c0 : w5.cell? ⟨q, 0, none⟩ = some (.int .u64 (uv (tSum l 0))) := (H5.out.cell hqr).trans a0
          have c1 : w5.cell? ⟨q, 1, none⟩ = some (.int .u64 (uv (tSum l 1))) := (H5.out.cell hqr).trans a1
          have c2' : w5.cell? ⟨q, 2, none⟩ = some (.int .u64 (uv (tSum l 2))) := (H5.out.cell hqr).trans a2
          have c3 : w5.cell? ⟨q, 3, none⟩ = some (.int .u64 (uv (tSum l 3))) := (H5.out.cell hqr).trans a3
          have c4 : w5.cell? ⟨q, 4, none⟩ = some (.int .u64 (uv (tSum l 4))) := (H5.out.cell hqr).trans a4
          have T5 : Hid (TlysAt w5 b2 o2 l) := Lib.hid (T4.out.below (by omega) H5.out)
          have S5 : Hid (TlysAt w5 b o l) := Lib.hid (TlysAt.below HS.out hbl (hq3'.out.trans (H5.out.mono (by have := hq3'.out.size; omega))))
          clear h5)
       | (go_at_call 8
          refine (tallies_true l b2 o2 c2 b o c _ HN.out (by omega) w5 T5.out S5.out).mono ?_
          rintro e w6 ⟨rfl, d6, rfl⟩)
       | (go_at_call_of 7 (Value.slice none 0 0)
          refine (add_nil none 0 _).mono ?_
          rintro e w7 ⟨rfl, h7⟩
          have H7 : Hid (Below w.heap.size w w7) := Lib.hid ((below_drewN (hq3'.out.trans (H5.out.mono (by have := hq3'.out.size; omega))) d6).trans (h7.mono (by have := hq3'.out.size; have := H5.out.size; show w.heap.size ≤ w5.heap.size; omega)))
          clear h7))
      all_goals (try go_wp2_with fail)
      all_goals (refine bodyPost_ret (v := .bool true) (by first | rfl | kernel_rfl) (by first | rfl | kernel_rfl) ?_)
      all_goals exact ⟨rfl, H7.out⟩

set_option maxHeartbeats 800000 in
theorem tallies_none (A A' : Option Addr) (c c' : Nat) (w : World) :
    Calls Try.prog 8 #[.slice A 0 c, .slice A' 0 c'] w fun e w' => e = .returned (.bool true) ∧ ∃ d, w' = w.drewN d := by
  go_enter Try.func8, Try.ntmps8
  go_wp2_with fail
  refine wp_loop_rounds 1 ?_
  rw [rounds_succ]
  go_wp2_with fail
  go_ret
  exact ⟨rfl, 0, rfl⟩

set_option maxRecDepth 100000 in
set_option maxHeartbeats 2000000 in
theorem adds_none (A : Option Addr) (c : Nat) (w : World) :
    Calls Try.prog 3 #[.slice A 0 c] w fun e w' => e = .returned (.bool true) ∧ Below w.heap.size w w' := by
  obtain ⟨i0, hi0, hz0, hz1, hz2⟩ := info_parts tly_info
  go_enter Try.func3, Try.ntmps3
  go_wp2_with fail
  refine (awake_any w).mono ?_
  rintro e wa ⟨rfl, hba⟩
  have HBA := Lib.hid hba
  clear hba
  go_wp2_with
    (at_builtin
     refine wpList_append_in _ rfl (.tmp 8) (.tmp 9) _ rfl (below_alloc HBA.out _) 26 i0 _ 5 40 Try.underlying22 hi0 hz0 hz1 hz2 rfl (by omega) _ 0 [] rfl (own_empty HBA.out _ _)
       A 0 c [] rfl (by simp) (Sl.nil _ _) (by simp) (by omega) (by omega) ?_
     intro v2 w2 hown hb2 g1 g2
     clear g1 g2)
  have hex := own_form hown
  obtain ⟨A2, c2, hv2, hnc2, hcm2, hsl2, hA2⟩ := hex
  have HB2 := Lib.hid hb2
  rw [hv2]
  clear hown hv2 hsl2 hA2 hb2
  go_wp2_with fail
  first | (refine wp_loop_rounds 1 ?_; rw [rounds_succ]) | skip
  go_wp2_with fail
  have O3 : Hid (Ob (w2.alloc (.cells #[.int .u64 0, .int .u64 0, .int .u64 0, .int .u64 0, .int .u64 0] 26)) w2.heap.size 26 (arr 5 z5)) := Ob.fresh w2 26 (arr 5 z5)
  have B3 := Lib.hid (below_alloc HB2.out (.cells #[.int .u64 0, .int .u64 0, .int .u64 0, .int .u64 0, .int .u64 0] 26))
  generalize w2.alloc (.cells #[.int .u64 0, .int .u64 0, .int .u64 0, .int .u64 0, .int .u64 0] 26) = wr at O3 B3 ⊢
  generalize w2.heap.size = q at O3 ⊢
  have a0 : wr.cell? ⟨q, 0, none⟩ = some (.int .u64 0) := O3.out.cell 0
  have a1 : wr.cell? ⟨q, 1, none⟩ = some (.int .u64 0) := O3.out.cell 1
  have a2 : wr.cell? ⟨q, 2, none⟩ = some (.int .u64 0) := O3.out.cell 2
  have a3 : wr.cell? ⟨q, 3, none⟩ = some (.int .u64 0) := O3.out.cell 3
  have a4 : wr.cell? ⟨q, 4, none⟩ = some (.int .u64 0) := O3.out.cell 4
  have hqr : q < wr.heap.size := O3.out.lt
  go_region_with
    (first
       | (go_at_call_of 7 (Value.slice A2 0 c2)
          refine (add_nil A2 c2 wr.drew).mono ?_
          rintro e w5 ⟨rfl, h5⟩
          have H5 : Hid (Below wr.heap.size wr w5) := Lib.hid (Below.trans (below_drewN (Below.refl _ wr) 1) h5)
          have c0 : w5.cell? ⟨q, 0, none⟩ = some (.int .u64 0) := (H5.out.cell hqr).trans a0
          have c1 : w5.cell? ⟨q, 1, none⟩ = some (.int .u64 0) := (H5.out.cell hqr).trans a1
          have c2' : w5.cell? ⟨q, 2, none⟩ = some (.int .u64 0) := (H5.out.cell hqr).trans a2
          have c3 : w5.cell? ⟨q, 3, none⟩ = some (.int .u64 0) := (H5.out.cell hqr).trans a3
          have c4 : w5.cell? ⟨q, 4, none⟩ = some (.int .u64 0) := (H5.out.cell hqr).trans a4
          clear h5)
       | (go_at_call 8
          refine (tallies_none A2 A c2 c w5).mono ?_
          rintro e w6 ⟨rfl, d6, rfl⟩)
       | (go_at_call_of 7 (Value.slice none 0 0)
          refine (add_nil none 0 _).mono ?_
          rintro e w7 ⟨rfl, h7⟩
          have H7 : Hid (Below w.heap.size w w7) := Lib.hid ((below_drewN (B3.out.trans (H5.out.mono (by have := B3.out.size; omega))) d6).trans (h7.mono (by have := B3.out.size; have := H5.out.size; show w.heap.size ≤ w5.heap.size; omega)))
          clear h7))
  all_goals (try go_wp2_with fail)
  all_goals (refine bodyPost_ret (v := .bool true) (by first | rfl | kernel_rfl) (by first | rfl | kernel_rfl) ?_)
  all_goals exact ⟨rfl, H7.out⟩

theorem adds_law (w : World) (l : List Tly) (v : Value) (hr : RdTlys w v l) :
    Calls Try.prog 3 #[v] w fun e w' => e = .returned (.bool true) ∧ Below w.heap.size w w' := by
  obtain ⟨⟨A, c, rfl, hc, hb⟩, hm⟩ := hr
  by_cases hp : 0 < l.length
  · obtain ⟨b, o, rfl, hbl, hs⟩ := hb hp
    exact adds_some l b o c l.length rfl hp hm w hs hbl
  · have h0 : l.length = 0 := by omega
    rw [h0]
    exact adds_none A c w

end Go.Proofs.Ytkjffhlnghgkoaa
