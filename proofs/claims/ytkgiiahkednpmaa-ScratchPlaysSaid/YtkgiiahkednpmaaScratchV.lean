/-
  Wipe; the walk of the law ScratchWords. Conditions: none.
-/
import Derived.Test.YtkgiiahkednpmaaScratchM
namespace Go.Proofs.Ytkgiiahkednpmaa
open Go.RowKit

attribute [local go_sem] uv_nonneg uv_wrap uv_add uv_sub uv_add1 uv_sub1 uv_not uv_notMax u64_signed

theorem Ob.setRow {w : World} {g : Nat} {t : TypeId} {cs : List Value} (h : Ob w g t cs) (cs' : List Value) : Ob (w.setRow g cs'.toArray) g t cs' := setRow_heap w g _ _ t (0, 0) h
theorem Only.setRow (w : World) (g : Nat) (cs : Array Value) : Only w (w.setRow g cs) g :=
  ⟨rfl, rfl, rfl, by simp [World.setRow], fun i hi hne => by
    have : i ≠ g := fun e => hne (by rw [e])
    simp only [World.setRow, Array.getElem?_modify]
    rw [if_neg (fun e => this e.symm)]⟩

theorem zero16 : (Builtin.zeroCells (Value.int .u64 0).cells 16).toList = arr 16 zz := by kernel_rfl

theorem run_wipe (ty : TypeId) (g o : Nat) (t : TypeId) (pre post : List Value) (ks : Nat → BitVec 64) (ho : o = pre.length) (w : World) (hob : Ob w g t (pre ++ (arr 16 ks ++ post))) :
    (Builtin.clear_ #[22] ty #[.slice (some ⟨g, o, none⟩) 16 16]).run Try.prog w = .ok (.tuple #[]) (w.setRow g (pre ++ (arr 16 zz ++ post)).toArray) := by
  obtain ⟨i0, hi0, hz0, hz1, hz2⟩ := info_parts u64_info
  have hst := run_storeCells_at Try.prog g o t (arr 16 zz) 0 (pre ++ (arr 16 ks ++ post)).toArray w hob (by simp [arr_length, ho]) (arr_one _ _)
  have hcs : ((pre ++ (arr 16 ks ++ post)).toArray.toList.take (o + 0) ++ arr 16 zz ++ (pre ++ (arr 16 ks ++ post)).toArray.toList.drop (o + 0 + (arr 16 zz).length)) = pre ++ (arr 16 zz ++ post) := by
    rw [arr_length, ho, Nat.add_zero, List.append_assoc]
    show List.take pre.length (pre ++ (arr 16 ks ++ post)) ++ (arr 16 zz ++ List.drop (pre.length + 16) (pre ++ (arr 16 ks ++ post))) = _
    rw [List.take_left, List.drop_append, List.drop_left' (by rw [arr_length]; omega)]
    simp [arr_length]
  rw [hcs] at hst
  simp [Builtin.clear_, run_underlying Try.underlying22, zeroValue, typeInfo, hi0, hz0, zero16, hst]

set_option maxHeartbeats 400000 in
theorem wipe_any (g o : Nat) (t : TypeId) (pre post : List Value) (ks : Nat → BitVec 64) (ho : o = pre.length) (w : World) (hob : Ob w g t (pre ++ (arr 16 ks ++ post))) :
    Calls Try.prog 17 #[.pointer (some ⟨g, o, none⟩)] w (Made w g t (.tuple #[]) (pre ++ (arr 16 zz ++ post))) := by
  have hrun := fun ty => run_wipe ty g o t pre post ks ho w hob
  have HO := Lib.hid hob
  clear hob ho
  go_enter Try.func17, Try.ntmps17
  go_wp2
  go_end0
  exact ⟨rfl, HO.out.setRow _, Only.setRow _ _ _⟩

/-- the code that Store answers, and the words behind it -/
def codeOf (n : Int) : Int := if 0 ≤ n ∧ n < 16 then 0 else 35
def updI (ks : Nat → BitVec 64) (n : Int) (x : BitVec 64) : Nat → BitVec 64 := fun j => if (j : Int) = n then x else ks j
theorem updI_nat (ks : Nat → BitVec 64) (j : Nat) (x : BitVec 64) : updI ks (j : Int) x = upd ks j x := by
  funext i; simp [updI, upd, Int.ofNat_inj]

theorem store_any (n : Int) (x : BitVec 64) (g o : Nat) (t : TypeId) (pre post : List Value) (ks : Nat → BitVec 64) (ho : o = pre.length) (w : World) (hob : Ob w g t (pre ++ (arr 16 ks ++ post))) :
    Calls Try.prog 15 #[.pointer (some ⟨g, o, none⟩), .int .i64 n, .int .u64 (uv x)] w (Made w g t (.int .i64 (codeOf n)) (pre ++ (arr 16 (updI ks n x) ++ post))) := by
  by_cases h : 0 ≤ n ∧ n < 16
  · obtain ⟨j, rfl⟩ : ∃ j : Nat, n = (j : Int) := ⟨n.toNat, by omega⟩
    have e : codeOf (j : Int) = 0 := if_pos h
    rw [e, updI_nat]
    exact store_in g o j t pre post ks x (by omega) ho w hob
  · have e : codeOf n = 35 := if_neg h
    rw [e]
    refine (store_out _ _ n (by unfold Out; omega) w).mono ?_
    rintro e w' ⟨rfl, rfl⟩
    refine ⟨rfl, ?_, Only.refl _ _⟩
    have e2 : arr 16 (updI ks n x) = arr 16 ks := arr_congr fun j hj => by unfold updI; rw [if_neg (by omega)]
    rw [e2]
    exact hob

theorem raised3 (j : Nat) (hj : j < 16) : uv (raise zz [5#64, 6#64, 7#64] j) = if j < 3 then 5 + (j : Int) else 0 := by
  match j, hj with
  | 0, _ => rfl
  | 1, _ => rfl
  | 2, _ => rfl
  | j + 3, h =>
    rw [if_neg (by omega)]
    unfold raise
    rw [wordAt_out _ _ (by simp)]
    rfl

theorem codeOf_in {n : Int} (h : 0 ≤ n ∧ n < 16) : (codeOf n == 0) = true := by unfold codeOf; rw [if_pos h]; rfl

set_option maxRecDepth 100000 in
set_option maxHeartbeats 1000000 in
theorem words_law (w : World) (at0 : Int) (_ : (Lit.int .i64 at0).wf = true) (other : Int) (_ : (Lit.int .i64 other).wf = true) (n : BitVec 64) :
    Calls Try.prog 6 #[.int .i64 at0, .int .i64 other, .int .u64 (uv n)] w fun e w' => e = .returned (.bool true) ∧ Below w.heap.size w w' := by
  go_enter Try.func6, Try.ntmps6
  go_wp2_with fail
  refine (awake_any w).mono ?_
  rintro e wa ⟨rfl, hba⟩
  have HBA := Lib.hid hba
  clear hba
  go_wp2_with fail
  refine (new_abs wa).mono ?_
  rintro e wb ⟨g, rfl, hg, hx, hb⟩
  have HG := Lib.hid (show w.heap.size ≤ g by have := HBA.out.size; omega)
  have HX := Lib.hid hx
  have HB := Lib.hid (HBA.out.trans (hb.mono HBA.out.size))
  clear hg hx hb
  go_wp2_with fail
  have hsl : Sl (wb.alloc (.cells #[.int .u64 5, .int .u64 6, .int .u64 7] 27)) (some ⟨wb.heap.size, 0, none⟩) (words [5#64, 6#64, 7#64]) := Sl.fresh wb #[.int .u64 5, .int .u64 6, .int .u64 7] 27 (0, 0)
  refine (raise_any g 16 3 3 (some ⟨wb.heap.size, 0, none⟩) 34 (arr 16 zz) [] zz [5#64, 6#64, 7#64] rfl (by rw [arr_length]) _ (HX.out.alloc _) hsl (by intro p hp; injection hp with hp; subst hp; have := HX.out.lt; show wb.heap.size ≠ g; omega) (by omega)).mono ?_
  rintro e wc ⟨rfl, ho, hn⟩
  have HO := Lib.hid ho
  have HBc := Lib.hid (Only.below (below_alloc HB.out (.cells #[.int .u64 5, .int .u64 6, .int .u64 7] 27)) hn (below_alloc HB.out _).size HG.out)
  clear ho hn hsl
  have hk3 : ∀ j, j < 16 → uv (raise zz [5#64, 6#64, 7#64] j) = if j < 3 then 5 + (j : Int) else 0 := raised3
  have HK := Lib.hid hk3
  clear hk3
  generalize raise zz [5#64, 6#64, 7#64] = ks at HO HK
  go_wp2_with fail
  refine (store_any at0 n g 0 34 [] _ zz rfl wc HO.out).mono ?_
  rintro e wd ⟨rfl, ho, hn⟩
  have HO1 := Lib.hid ho
  have HB1 := Lib.hid (Only.below HBc.out hn HBc.out.size HG.out)
  clear ho hn
  go_wp2_with fail
  refine (store_any other (~~~n) g 0 34 [] _ _ rfl wd HO1.out).mono ?_
  rintro e we ⟨rfl, ho, hn⟩
  have HO2 := Lib.hid ho
  have HB2 := Lib.hid (Only.below HB1.out hn HB1.out.size HG.out)
  clear ho hn
  go_wp2_with fail
  go_loop [11] (fun i => ∃ k : Nat, k ≤ 16 ∧ i = .int .i64 k) (fun i => 16 - (intOf i).toNat)
  case atStart => exact ⟨0, Nat.zero_le _, rfl⟩
  case round =>
    obtain ⟨k, hk, rfl⟩ := hrel
    by_cases hlt : k < 16
    · by_cases h2 : (k : Int) = other
      · have c2 := codeOf_in (n := other) (by omega)
        have b2 : ((k : Int) == other) = true := by simpa using h2
        have e : updI (updI zz at0 n) other (~~~n) k = ~~~n := if_pos h2
        have E := Lib.hid e
        have HLT := Lib.hid hlt
        clear e h2
        by_cases h1 : (k : Int) = at0
        · have c1 := codeOf_in (n := at0) (by omega)
          have b1 : ((k : Int) == at0) = true := by simpa using h1
          clear h1
          go_wp2_with fail
          refine (load_in g 0 k 34 [] _ _ HLT.out rfl we HO2.out).mono ?_
          rintro e w' ⟨rfl, rfl⟩
          rw [E.out]
          go_wp2_with fail
          go_round
          case rel => exact ⟨k + 1, by omega, by go_num⟩
          case measure => simp [intOf]; omega
        · have b1 : ((k : Int) == at0) = false := by simpa using h1
          clear h1
          go_wp2_with fail
          refine (load_in g 0 k 34 [] _ _ HLT.out rfl we HO2.out).mono ?_
          rintro e w' ⟨rfl, rfl⟩
          rw [E.out]
          go_wp2_with fail
          go_round
          case rel => exact ⟨k + 1, by omega, by go_num⟩
          case measure => simp [intOf]; omega
      · have b2 : ((k : Int) == other) = false := by simpa using h2
        have HLT := Lib.hid hlt
        by_cases h1 : (k : Int) = at0
        · have c1 := codeOf_in (n := at0) (by omega)
          have b1 : ((k : Int) == at0) = true := by simpa using h1
          have e : updI (updI zz at0 n) other (~~~n) k = n := by unfold updI; rw [if_neg h2, if_pos h1]
          have E := Lib.hid e
          clear h1 h2 e
          go_wp2_with fail
          refine (load_in g 0 k 34 [] _ _ HLT.out rfl we HO2.out).mono ?_
          rintro e w' ⟨rfl, rfl⟩
          rw [E.out]
          go_wp2_with fail
          go_round
          case rel => exact ⟨k + 1, by omega, by go_num⟩
          case measure => simp [intOf]; omega
        · have b1 : ((k : Int) == at0) = false := by simpa using h1
          have e : uv (updI (updI zz at0 n) other (~~~n) k) = 0 := by unfold updI; rw [if_neg h2, if_neg h1]; rfl
          have E := Lib.hid e
          clear h1 h2 e
          go_wp2_with fail
          refine (load_in g 0 k 34 [] _ _ HLT.out rfl we HO2.out).mono ?_
          rintro e w' ⟨rfl, rfl⟩
          rw [E.out]
          go_wp2_with fail
          go_round
          case rel => exact ⟨k + 1, by omega, by go_num⟩
          case measure => simp [intOf]; omega
    · obtain rfl : k = 16 := by omega
      clear hlt hk
      go_wp2_with fail
      refine (wipe_any g 0 34 [] _ _ rfl we HO2.out).mono ?_
      rintro e wf ⟨rfl, ho, hn⟩
      have HO3 := Lib.hid ho
      have HB3 := Lib.hid (Only.below HB2.out hn HB2.out.size HG.out)
      clear ho hn
      go_wp2_with fail
      go_loop [15] (fun i => ∃ k : Nat, k ≤ 16 ∧ i = .int .i64 k) (fun i => 16 - (intOf i).toNat)
      case atStart => exact ⟨0, Nat.zero_le _, rfl⟩
      case round =>
        obtain ⟨k, hk, rfl⟩ := hrel
        by_cases hlt : k < 16
        · have HLT := Lib.hid hlt
          have z0 : uv (zz k) = 0 := rfl
          by_cases h3 : k < 3
          · have e : uv (ks k) = 5 + (k : Int) := by rw [HK.out k hlt, if_pos h3]
            have E := Lib.hid e
            clear e
            go_wp2_with fail
            refine (load_in g 0 k 34 [] _ _ HLT.out rfl wf HO3.out).mono ?_
            rintro e w' ⟨rfl, rfl⟩
            go_wp2_with fail
            refine (count_in g 16 k 34 (arr 16 zz) [] _ HLT.out (by rw [arr_length]) wf HO3.out).mono ?_
            rintro e w' ⟨rfl, rfl⟩
            rw [E.out]
            go_wp2_with fail
            go_round
            case rel => exact ⟨k + 1, by omega, by go_num⟩
            case measure => simp [intOf]; omega
          · have e : uv (ks k) = 0 := by rw [HK.out k hlt, if_neg h3]
            have E := Lib.hid e
            have n3 : decide ((k : Int) < 3) = false := by simp; omega
            have p3 : 2 < (k : Int) := by omega
            clear e h3
            go_wp2_with fail
            refine (load_in g 0 k 34 [] _ _ HLT.out rfl wf HO3.out).mono ?_
            rintro e w' ⟨rfl, rfl⟩
            go_wp2_with fail
            refine (count_in g 16 k 34 (arr 16 zz) [] _ HLT.out (by rw [arr_length]) wf HO3.out).mono ?_
            rintro e w' ⟨rfl, rfl⟩
            rw [E.out]
            go_wp2_with fail
            go_round
            case rel => exact ⟨k + 1, by omega, by go_num⟩
            case measure => simp [intOf]; omega
        · obtain rfl : k = 16 := by omega
          clear hlt hk
          by_cases hr : 0 ≤ at0 ∧ at0 < 16
          · have c1 := codeOf_in hr
            obtain ⟨r1, r2⟩ := hr
            go_wp2_with fail
            go_ret
            exact ⟨rfl, HB3.out⟩
          · have c1 : (codeOf at0 == 0) = false := by unfold codeOf; rw [if_neg hr]; rfl
            by_cases r1 : 0 ≤ at0
            · have r2 : decide (at0 < 16) = false := by simp; omega
              clear hr
              go_wp2_with fail
              go_ret
              exact ⟨rfl, HB3.out⟩
            · have r2 : decide (0 ≤ at0) = false := by simpa using r1
              clear hr r1
              go_wp2_with fail
              go_ret
              exact ⟨rfl, HB3.out⟩

end Go.Proofs.Ytkgiiahkednpmaa
