/-
  The walk of the law ScratchMarks. Conditions: none.
-/
import Derived.Test.YtkgiiahkednpmaaScratchT
import Derived.Deep.RegionWith
namespace Go.Proofs.Ytkgiiahkednpmaa
open Go.RowKit

attribute [local go_sem] uv_nonneg uv_wrap uv_add uv_sub uv_add1 uv_sub1

/-- a slice of ints that reads as the numbers ns, place by place -/
theorem sl_ints {w : World} {A : Option Addr} {ns : List Int} (h : Sl w A (ns.map (Value.int .i64))) (hp : 0 < ns.length) :
    ∃ b o, A = some ⟨b, o, none⟩ ∧ ∀ j, j < ns.length → w.cell? ⟨b, o + j, none⟩ = some (.int .i64 (ns.getD j 0)) := by
  obtain ⟨b, o, e, hc⟩ := h (by simpa using hp)
  refine ⟨b, o, e, fun j hj => ?_⟩
  rw [hc j (by simpa using hj)]
  simp [List.getD_eq_getElem?_getD, List.getElem?_map, List.getElem?_eq_getElem hj]

theorem make16 (w : World) : (Instr.makeSlice 22 (.int .i64 16) (.int .i64 16)).run Try.prog w = .ok (.slice (some ⟨w.heap.size, 0, none⟩) 16 16) (w.alloc (.cells (arr 16 zz ++ []).toArray 27)) := by kernel_rfl

set_option maxRecDepth 100000 in
set_option maxHeartbeats 1000000 in
theorem marks_any (ns : List Int) (A : Option Addr) (c n : Nat) (hn : n = ns.length) (hmax : n ≤ 4611686018427387904) (w : World) (hs : Sl w A (ns.map (Value.int .i64))) :
    Calls Try.prog 4 #[.slice A n c] w fun e w' => e = .returned (.bool true) ∧ Below w.heap.size w w' := by
  have HS := Lib.hid hs
  have HN := Lib.hid hn
  clear hs hn
  go_enter Try.func4, Try.ntmps4
  go_wp2_with fail
  refine (awake_any w).mono ?_
  rintro e wa ⟨rfl, hba⟩
  have HBA := Lib.hid hba
  clear hba
  go_wp2_with fail
  refine (new_abs wa).mono ?_
  rintro e wb ⟨g, rfl, hg, hx, hb⟩
  have HG := Lib.hid hg
  have HX := Lib.hid hx
  have HB := Lib.hid (HBA.out.trans (hb.mono HBA.out.size))
  clear hg hx hb
  have hmk := make16 wb
  have hlt : g < wb.heap.size := HX.out.lt
  have HO := Lib.hid (Ob.fresh wb 27 (arr 16 zz ++ []))
  have HXa := Lib.hid (HX.out.alloc (.cells (arr 16 zz ++ []).toArray 27))
  have HBa := Lib.hid (below_alloc HB.out (.cells (arr 16 zz ++ []).toArray 27))
  generalize (wb.alloc (.cells (arr 16 zz ++ []).toArray 27)) = wc at HO HXa HBa hmk
  obtain ⟨q, hq⟩ : ∃ q, q = wb.heap.size := ⟨_, rfl⟩
  rw [← hq] at HO hmk hlt
  have hlo : w.heap.size ≤ g := by have := HBA.out.size; have := HG.out; omega
  clear hq
  go_wp2_with fail
  go_loopw [5] (fun i wr => ∃ (k : Nat) (ks : Nat → BitVec 64), k ≤ n ∧ i = .int .i64 k ∧ ScrAt wr g zz ks ∧ Ob wr q 27 (arr 16 ks ++ []) ∧ Below w.heap.size w wr) (fun i _ => n - (intOf i).toNat)
  case atStart => exact ⟨0, zz, Nat.zero_le _, rfl, HXa.out, HO.out, HBa.out⟩
  case round =>
    obtain ⟨k, ks, hk, rfl, hx, ho, hb⟩ := hrel
    have HXR := Lib.hid hx
    have HOR := Lib.hid ho
    have HBR := Lib.hid hb
    clear hx ho hb hmk
    by_cases hltk : k < n
    · obtain ⟨b, o, rfl, hcc⟩ := sl_ints HS.out (by have := HN.out; omega)
      have HC := Lib.hid hcc
      clear hcc
      have hc0 := HC.out k (by have := HN.out; omega)
      have f1 : wr.cell? ⟨b, o + k, none⟩ = some (.int .i64 (ns.getD k 0)) := by rw [HBR.out.cell (cell_lt hc0)]; exact hc0
      clear hc0
      generalize ns.getD k 0 = x at f1
      have g1 : (k : Int) < (n : Int) := by omega
      by_cases hout : Out x
      · have HOUT := Lib.hid hout
        clear hout
        go_wp2_with fail
        go_region_with (go_at_call 12; refine (mark_out _ _ HOUT.out _).mono ?_; rintro e w' ⟨rfl, rfl⟩)
        by_cases hx0 : x < 0
        · go_wp2_with fail
          go_roundw
          case rel => exact ⟨k + 1, ks, by omega, by go_num, HXR.out, HOR.out, below_drewN HBR.out 1⟩
          case measure => simp [intOf]; omega
        · have hx1 : 15 < x := by have := HOUT.out; unfold Out at this; omega
          have hx2 : decide (x < 0) = false := by simpa using hx0
          clear hx0
          go_wp2_with fail
          go_roundw
          case rel => exact ⟨k + 1, ks, by omega, by go_num, HXR.out, HOR.out, below_drewN HBR.out 1⟩
          case measure => simp [intOf]; omega
      · obtain ⟨j, rfl⟩ : ∃ j : Nat, x = (j : Int) := ⟨x.toNat, by unfold Out at hout; omega⟩
        have hj : j < 16 := by unfold Out at hout; omega
        clear hout
        have HJ := Lib.hid hj
        have g2 : decide ((j : Int) < 0) = false := by simp
        have g3 : decide (15 < (j : Int)) = false := by simp; omega
        go_wp2_with fail
        go_region_with (go_at_call 12; refine (mark_in g 16 j 34 (arr 16 zz) [] ks HJ.out (by rw [arr_length]) _ (HXR.out.drew)).mono ?_; rintro e w1 ⟨rfl, ho1, hn1⟩)
        have hbl : b < w.heap.size := by have := cell_lt (HC.out k (by have := HN.out; omega)); exact this
        have f5 : w1.cell? ⟨b, o + k, none⟩ = some (.int .i64 (j : Int)) := Only.cell hn1 f1 (by show b ≠ g; omega)
        have HOR1 := Lib.hid (Ob.only (HOR.out.drew) hn1 (by omega))
        have f3 : w1.cell? ⟨q, j, none⟩ = some (.int .u64 (uv (ks j))) := by have h := HOR1.out.at_ (pre := []) j hj; rw [List.length_nil, Nat.zero_add] at h; exact h
        have f4 : w1.frozen? ⟨q, j, none⟩ = false := HOR1.out.frozen _
        have HB1 := Lib.hid (Only.below (HBR.out.drew) hn1 HBR.out.size hlo)
        have HX1 := Lib.hid ho1
        have hbq : b < q := by omega
        clear f1 hn1 ho1
        go_wp2_with fail
        go_roundw
        case rel =>
          refine ⟨k + 1, upd ks j (ks j + 1#64), by omega, by go_num, ?_, ?_, ?_⟩
          · exact Ob.far HX1.out (by show g ≠ q; omega) _
          · have h := HOR1.out.put (pre := []) j hj (ks j + 1#64)
            rw [List.length_nil, Nat.zero_add] at h
            exact h
          · exact HB1.out.setCell (by show w.heap.size ≤ q; omega) _
        case measure => simp [intOf]; omega
    · go_wp2_with fail
      refine (totals_new [some (g, zz, ks)] wr ?_ _ rfl 1 rfl (by omega)).mono ?_
      · intro x hx
        simp only [List.mem_cons, List.not_mem_nil, or_false] at hx
        subst hx
        exact HXR.out
      rintro e w6 ⟨v6, rfl, hown, hb⟩
      have e1 : arr 16 (tot [some (g, zz, ks)]) = arr 16 ks := arr_congr fun j _ => by simp only [tot, List.foldl_cons, List.foldl_nil, cntOf]; rw [BitVec.zero_add]
      rw [e1] at hown
      obtain ⟨g6, cap6, rest6, hv, hg6, hob6, _, _, _, _⟩ := own_ob hown (by omega)
      have HO6 := Lib.hid hob6
      have HOR6 := Lib.hid (Ob.below HOR.out hb HOR.out.lt)
      have HB6 := Lib.hid (HBR.out.trans (hb.mono HBR.out.size))
      rw [hv]
      clear hown hb hv hob6 hg6 e1
      go_wp2_with fail
      refine (numbers_ob ks g6 q _ _ _ _ rest6 [] w6 HO6.out HOR6.out).mono ?_
      rintro e w' ⟨rfl, d2, rfl⟩
      go_wp2_with fail
      go_ret
      exact ⟨rfl, below_drewN HB6.out d2⟩

theorem marks_law (w : World) (ns : List Int) (v : Value) (hr : RdInts .i64 w v ns) :
    Calls Try.prog 4 #[v] w fun e w' => e = .returned (.bool true) ∧ Below w.heap.size w w' := by
  obtain ⟨⟨A, c, rfl, hc, hs⟩, _, hm⟩ := hr
  exact marks_any ns A c ns.length rfl (by omega) w hs

end Go.Proofs.Ytkgiiahkednpmaa
