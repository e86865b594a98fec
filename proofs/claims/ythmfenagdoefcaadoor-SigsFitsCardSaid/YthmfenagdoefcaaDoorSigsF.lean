/-
  Layer 8: Find. Conditions: those of each theorem.
-/
import Derived.Test.YthmfenagdoefcaaDoorSigsW
namespace Go.Proofs.YthmfenagdoefcaaDoor
open Go.RowKit

theorem wp_index_agg {P : Program} {o : Oper} {a : Act} {w : World} {K : Act → World → Prop} {Q : Exit → Act → World → Prop} (ty : TypeId) (x i : Operand) (ho : o.op = .index ty x i) (v : Value)
    (hr : (Instr.index ty (a.eval x) (a.eval i)).run P w = .ok v w) (h : K (a.put o.dst v) w) : o.wp P a w K Q := by
  unfold Oper.wp execOp
  simp only [ho, hr, Sem.run_bind, Sem.run_pure, Result.andThen_ok]
  exact h
theorem wpList_index_agg {P : Program} {ops : Array Oper} {rest : List Oper} {o : Oper} {a : Act} {w : World} {Q : Exit → Act → World → Prop} (hgd : o.guard = none) (ty : TypeId) (x i : Operand) (ho : o.op = .index ty x i) (v : Value)
    (hr : (Instr.index ty (a.eval x) (a.eval i)).run P w = .ok v w) (h : wpList P ops Q rest (a.put o.dst v) w) : wpList P ops Q (o :: rest) a w :=
  wpList_plain hgd fun _ hK => wp_index_agg ty x i ho v hr (hK _ _ h)
theorem bs_ne {a b : ByteArray} (h : a ≠ b) : (a.toList == b.toList) = false := by
  rw [ByteArray.toList_eq, ByteArray.toList_eq]
  simp only [beq_eq_false_iff_ne, ne_eq]
  intro he
  exact h (ByteArray.ext (Array.toList_inj.1 he))
theorem run_index_tab (w : World) (k : Nat) (hk : k < 7) : (Instr.index 58 (.agg tabL.toArray) (.int .i64 k)).run Tryd.prog w = .ok (sgVal k) w := by
  rcases y_cases hk with rfl | rfl | rfl | rfl | rfl | rfl | rfl <;> kernel_rfl

/-- the helper of a name, by its number; 7: none -/
def fdN (s : ByteArray) : Nat := if nmB 0 = s then 0 else if nmB 1 = s then 1 else if nmB 2 = s then 2 else if nmB 3 = s then 3 else if nmB 4 = s then 4 else if nmB 5 = s then 5 else if nmB 6 = s then 6 else 7
def fdI (s : ByteArray) : Int := if fdN s < 7 then (fdN s : Int) else 0
def fdB (s : ByteArray) : Bool := decide (fdN s < 7)
theorem fdN_at {s : ByteArray} {k : Nat} (hk : k < 7) (h0 : ∀ j, j < k → nmB j ≠ s) (h1 : nmB k = s) : fdN s = k := by
  have hx : ∀ j, j < k → (if nmB j = s then (0 : Nat) else 1) = 1 := fun j hj => if_neg (h0 j hj)
  unfold fdN
  rcases y_cases hk with rfl | rfl | rfl | rfl | rfl | rfl | rfl
  · rw [if_pos h1]
  · rw [if_neg (h0 0 (by omega)), if_pos h1]
  · rw [if_neg (h0 0 (by omega)), if_neg (h0 1 (by omega)), if_pos h1]
  · rw [if_neg (h0 0 (by omega)), if_neg (h0 1 (by omega)), if_neg (h0 2 (by omega)), if_pos h1]
  · rw [if_neg (h0 0 (by omega)), if_neg (h0 1 (by omega)), if_neg (h0 2 (by omega)), if_neg (h0 3 (by omega)), if_pos h1]
  · rw [if_neg (h0 0 (by omega)), if_neg (h0 1 (by omega)), if_neg (h0 2 (by omega)), if_neg (h0 3 (by omega)), if_neg (h0 4 (by omega)), if_pos h1]
  · rw [if_neg (h0 0 (by omega)), if_neg (h0 1 (by omega)), if_neg (h0 2 (by omega)), if_neg (h0 3 (by omega)), if_neg (h0 4 (by omega)), if_neg (h0 5 (by omega)), if_pos h1]
theorem fdN_none {s : ByteArray} (h0 : ∀ j, j < 7 → nmB j ≠ s) : fdN s = 7 := by
  unfold fdN
  rw [if_neg (h0 0 (by omega)), if_neg (h0 1 (by omega)), if_neg (h0 2 (by omega)), if_neg (h0 3 (by omega)), if_neg (h0 4 (by omega)), if_neg (h0 5 (by omega)), if_neg (h0 6 (by omega))]

set_option maxRecDepth 100000 in
set_option maxHeartbeats 4000000 in
theorem find_any (w : World) (s : ByteArray) (ht : Tab w) :
    Calls Tryd.prog 15 #[.string s] w fun e w' => e = .returned (.tuple #[.int .i64 (fdI s), .bool (fdB s)]) ∧ Below w.heap.size w w' := by
  obtain ⟨r1, h1⟩ : ∃ r, fdI s = r := ⟨_, rfl⟩
  obtain ⟨r2, h2⟩ : ∃ r, fdB s = r := ⟨_, rfl⟩
  rw [h1, h2]
  have H1 := Lib.hid h1
  have H2 := Lib.hid h2
  clear h1 h2
  obtain ⟨tt, fr, hg⟩ := ht
  have HIX := Lib.hid (fun (w : World) (k : Nat) (hk : k < 7) => run_index_tab w k hk)
  have hsz : (Tryd.prog.info? 58).map (·.size) = some tabL.toArray.size := by kernel_rfl
  unfold sgVal at HIX
  generalize tabL.toArray = arr at hg HIX hsz
  go_enter Tryd.func15, Tryd.ntmps15
  go_wp2_with
    (refine wpList_load_row rfl 58 (.global 0) rfl 0 rfl tt arr fr (.array 7 53) hg Tryd.underlying58 rfl hsz ?_
     clear hg)
  go_loopw [7] (fun i wr => ∃ k : Nat, k ≤ 7 ∧ i = .int .i64 k ∧ Below w.heap.size w wr ∧ ∀ j, j < k → nmB j ≠ s) (fun i _ => 7 - (intOf i).toNat)
  case atStart => exact ⟨0, Nat.zero_le _, rfl, Below.refl _ _, fun j hj => absurd hj (by omega)⟩
  case round =>
    obtain ⟨k, hk, rfl, hb, hp⟩ := hrel
    have BB := Lib.hid hb
    have HP := Lib.hid hp
    clear hb hp
    by_cases hlt : k < 7
    · have g1 : (k : Int) < 7 := by omega
      have hix := HIX.out wr k hlt
      have HF1 := Lib.hid (fun he => fdN_at hlt HP.out he)
      have HP2 := Lib.hid (show nmB k ≠ s → ∀ j, j < k + 1 → nmB j ≠ s from fun he j hj => by
        by_cases hjk : j < k
        · exact HP.out j hjk
        · obtain rfl : j = k := by omega
          exact he)
      generalize nmB k = nm at hix HF1 HP2
      generalize wtB k = t0 at hix
      generalize msU k = t1 at hix
      generalize asI k = t2 at hix
      generalize adB k = t3 at hix
      by_cases he : nm = s
      · subst he
        have HF := Lib.hid (HF1.out rfl)
        have HR1 := Lib.hid (show r1 = k by rw [← H1.out]; unfold fdI; rw [HF.out, if_pos hlt])
        have HR2 := Lib.hid (show r2 = true by rw [← H2.out]; unfold fdB; rw [HF.out]; exact decide_eq_true hlt)
        go_wp2_with
          (refine wpList_index_agg rfl 58 (.tmp 6) (.tmp 7) rfl _ hix ?_)
        go_ret2
        exact ⟨by rw [HR1.out, HR2.out]; rfl, below_alloc BB.out _⟩
      · have HE := Lib.hid he
        have he' := bs_ne he
        go_wp2_with
          (refine wpList_index_agg rfl 58 (.tmp 6) (.tmp 7) rfl _ hix ?_)
        refine ⟨⟨k + 1, by omega, by go_num, below_alloc BB.out _, HP2.out HE.out⟩, by simp [intOf]; omega⟩
    · have hk7 : k = 7 := by omega
      subst hk7
      have HF := Lib.hid (fdN_none HP.out)
      have HR1 := Lib.hid (show r1 = 0 by rw [← H1.out]; unfold fdI; rw [HF.out]; rfl)
      have HR2 := Lib.hid (show r2 = false by rw [← H2.out]; unfold fdB; rw [HF.out]; rfl)
      go_wp2_with fail
      go_ret2
      exact ⟨by rw [HR1.out, HR2.out]; rfl, BB.out⟩

set_option maxRecDepth 100000 in
set_option maxHeartbeats 1000000 in
theorem rname_any (w : World) (h : Int) :
    Calls Tryd.prog 23 #[.int .i64 h] w fun e w' => e = .returned (.string (nmB (hI h))) ∧ Below w.heap.size w w' := by
  have HO : Hid (Ob (w.alloc (.cells #[.string ⟨#[103, 101, 116]⟩, .string ⟨#[104, 97, 115]⟩, .string ⟨#[112, 117, 116]⟩, .string ⟨#[100, 101, 108]⟩, .string ⟨#[97, 100, 100]⟩, .string ⟨#[109, 97, 114, 107]⟩, .string ⟨#[110, 111, 116, 101]⟩] 9)) w.heap.size 9 [.string (nmB 0), .string (nmB 1), .string (nmB 2), .string (nmB 3), .string (nmB 4), .string (nmB 5), .string (nmB 6)]) := Lib.hid (Ob.fresh w 9 [.string ⟨#[103, 101, 116]⟩, .string ⟨#[104, 97, 115]⟩, .string ⟨#[112, 117, 116]⟩, .string ⟨#[100, 101, 108]⟩, .string ⟨#[97, 100, 100]⟩, .string ⟨#[109, 97, 114, 107]⟩, .string ⟨#[110, 111, 116, 101]⟩])
  have HB := Lib.hid (below_alloc (Below.refl w.heap.size w) (.cells #[.string ⟨#[103, 101, 116]⟩, .string ⟨#[104, 97, 115]⟩, .string ⟨#[112, 117, 116]⟩, .string ⟨#[100, 101, 108]⟩, .string ⟨#[97, 100, 100]⟩, .string ⟨#[109, 97, 114, 107]⟩, .string ⟨#[110, 111, 116, 101]⟩] 9))
  rcases h_cases h with ⟨y, rfl, hy⟩ | h0 | ⟨h0, h1⟩
  · have hI' := hI_nat hy
    rw [hI']
    obtain ⟨n0, hn0⟩ : ∃ n, nmB y = n := ⟨_, rfl⟩
    rw [hn0]
    have HN0 := Lib.hid hn0
    clear hn0
    have g1 : ¬ 6 < (y : Int) := by omega
    have g2 : (y : Int) < 7 := by omega
    go_enter Tryd.func23, Tryd.ntmps23
    go_upto_region 2 with fail
    generalize w.alloc (.cells #[.string ⟨#[103, 101, 116]⟩, .string ⟨#[104, 97, 115]⟩, .string ⟨#[112, 117, 116]⟩, .string ⟨#[100, 101, 108]⟩, .string ⟨#[97, 100, 100]⟩, .string ⟨#[109, 97, 114, 107]⟩, .string ⟨#[110, 111, 116, 101]⟩] 9) = w1 at HO HB ⊢
    generalize w.heap.size = q at HO ⊢
    have f0 : w1.cell? ⟨q, y, none⟩ = some (.string (nmB y)) := by
      rw [HO.out.cell]
      rcases y_cases hy with rfl | rfl | rfl | rfl | rfl | rfl | rfl <;> rfl
    rw [HN0.out] at f0
    go_wp2_with fail
    go_ret
    exact ⟨rfl, HB.out⟩
  · rw [hI_out (.inl h0)]
    go_enter Tryd.func23, Tryd.ntmps23
    go_wp2_with fail
    go_ret
    exact ⟨rfl, HB.out⟩
  · rw [hI_out (.inr h1)]
    have h2 : 6 < h := by omega
    clear h1
    go_enter Tryd.func23, Tryd.ntmps23
    go_wp2_with fail
    go_ret
    exact ⟨rfl, HB.out⟩

set_option maxRecDepth 100000 in
set_option maxHeartbeats 1000000 in
theorem rfind_any (w : World) (s : ByteArray) :
    Calls Tryd.prog 20 #[.string s] w fun e w' => e = .returned (.tuple #[.int .i64 (fdI s), .bool (fdB s)]) ∧ Below w.heap.size w w' := by
  obtain ⟨r1, h1⟩ : ∃ r, fdI s = r := ⟨_, rfl⟩
  obtain ⟨r2, h2⟩ : ∃ r, fdB s = r := ⟨_, rfl⟩
  rw [h1, h2]
  have H1 := Lib.hid h1
  have H2 := Lib.hid h2
  clear h1 h2
  go_enter Tryd.func20, Tryd.ntmps20
  go_wp2_with fail
  go_loopw [4] (fun i wr => ∃ k : Nat, k ≤ 7 ∧ i = .int .i64 k ∧ Below w.heap.size w wr ∧ ∀ j, j < k → nmB j ≠ s) (fun i _ => 7 - (intOf i).toNat)
  case atStart => exact ⟨0, Nat.zero_le _, rfl, Below.refl _ _, fun j hj => absurd hj (by omega)⟩
  case round =>
    obtain ⟨k, hk, rfl, hb, hp⟩ := hrel
    have BB := Lib.hid hb
    have HP := Lib.hid hp
    clear hb hp
    by_cases hlt : k < 7
    · have g1 : (k : Int) < 7 := by omega
      have HI := Lib.hid (hI_nat hlt)
      have HF1 := Lib.hid (fun he => fdN_at hlt HP.out he)
      have HP2 := Lib.hid (show nmB k ≠ s → ∀ j, j < k + 1 → nmB j ≠ s from fun he j hj => by
        by_cases hjk : j < k
        · exact HP.out j hjk
        · obtain rfl : j = k := by omega
          exact he)
      go_wp2_with fail
      refine (rname_any _ k).mono ?_
      rintro e w1 ⟨rfl, b1⟩
      rw [HI.out]
      have BX := Lib.hid (BB.out.trans (b1.mono BB.out.size))
      clear b1
      generalize nmB k = nm at HF1 HP2 ⊢
      by_cases he : nm = s
      · subst he
        have HF := Lib.hid (HF1.out rfl)
        have HR1 := Lib.hid (show r1 = k by rw [← H1.out]; unfold fdI; rw [HF.out, if_pos hlt])
        have HR2 := Lib.hid (show r2 = true by rw [← H2.out]; unfold fdB; rw [HF.out]; exact decide_eq_true hlt)
        go_wp2_with fail
        go_ret2
        exact ⟨by rw [HR1.out, HR2.out]; rfl, BX.out⟩
      · have HE := Lib.hid he
        have he' := bs_ne he
        go_wp2_with fail
        refine ⟨⟨k + 1, by omega, by go_num, BX.out, HP2.out HE.out⟩, by simp [intOf]; omega⟩
    · have hk7 : k = 7 := by omega
      subst hk7
      have HF := Lib.hid (fdN_none HP.out)
      have HR1 := Lib.hid (show r1 = 0 by rw [← H1.out]; unfold fdI; rw [HF.out]; rfl)
      have HR2 := Lib.hid (show r2 = false by rw [← H2.out]; unfold fdB; rw [HF.out]; rfl)
      go_wp2_with fail
      go_ret2
      exact ⟨by rw [HR1.out, HR2.out]; rfl, BB.out⟩

/-- what Result tells -/
def rsT (y : Nat) : TypeV := if y < 7 then ⟨1, 0, msU y, 0⟩ else ty0

set_option maxRecDepth 100000 in
set_option maxHeartbeats 1000000 in
theorem result_any (w : World) (h : Int) (ht : Tab w) :
    Calls Tryd.prog 19 #[.int .i64 h] w fun e w' => e = .returned (.tuple #[tyVal (rsT (hI h)), .bool (decide (hI h < 7))]) ∧ Below w.heap.size w w' := by
  have HT : Hid (Tab (w.alloc (.cells #[.int .i64 0, .int .u64 0, .int .u64 0, .int .i64 0] 31))) := Lib.hid (ht.below (below_alloc (Below.refl _ _) _))
  have HO := Lib.hid (Ob.fresh w 31 [.int .i64 0, .int .u64 0, .int .u64 0, .int .i64 0])
  have HB := Lib.hid (below_alloc (Below.refl w.heap.size w) (.cells #[.int .i64 0, .int .u64 0, .int .u64 0, .int .i64 0] 31))
  clear ht
  obtain ⟨y, hy⟩ : ∃ y, hI h = y := ⟨_, rfl⟩
  rw [hy]
  have HY := Lib.hid hy
  clear hy
  go_enter Tryd.func19, Tryd.ntmps19
  go_wp2_with fail
  generalize w.alloc (.cells #[.int .i64 0, .int .u64 0, .int .u64 0, .int .i64 0] 31) = w1 at HT HO HB ⊢
  obtain ⟨q, hq⟩ : ∃ q, w.heap.size = q := ⟨_, rfl⟩
  have HBq : Below q w w1 := by rw [← hq]; exact HB.out
  have HQ := Lib.hid hq
  rw [hq] at HO ⊢
  have HBS : q ≤ w1.heap.size := by rw [← hq]; exact HB.out.size
  clear hq
  refine (of_any w1 h HT.out).mono ?_
  rintro e w2 ⟨rfl, b2⟩
  rw [HY.out]
  unfold sgVal
  have HB2 := Lib.hid (HBq.trans (b2.mono HBS))
  have HO2 := Lib.hid (HO.out.below b2 HO.out.lt)
  clear b2 HO HB HT HBq HBS
  obtain ⟨a2, ha2⟩ : ∃ a, msU y = a := ⟨_, rfl⟩
  rw [ha2]
  have HA2 := Lib.hid ha2
  clear ha2
  by_cases hy7 : y < 7
  · have hR := Lib.hid (show tyVal (rsT y) = .agg #[.int .i64 1, .int .u64 0, .int .u64 a2, .int .i64 0] by unfold rsT; rw [if_pos hy7, HA2.out]; rfl)
    have hD := Lib.hid (decide_eq_true hy7)
    rw [hD.out]
    generalize nmB y = a0
    generalize wtB y = a1
    generalize asI y = a3
    generalize adB y = a4
    have HO3 := Lib.hid (HO2.out.alloc (.cells #[.string a0, .string a1, .int .u64 a2, .int .i64 a3, .bool a4] 53))
    have HB3 := Lib.hid (HB2.out.alloc (Nat.le_trans (Nat.le_of_eq HQ.out.symm) HB2.out.size) (.cells #[.string a0, .string a1, .int .u64 a2, .int .i64 a3, .bool a4] 53))
    go_wp2_with fail
    generalize w2.alloc (.cells #[.string a0, .string a1, .int .u64 a2, .int .i64 a3, .bool a4] 53) = w3 at HO3 HB3 ⊢
    refine (number_any w3 a2).mono ?_
    rintro e w4 ⟨rfl, b4⟩
    have HO4 := Lib.hid (HO3.out.below b4 HO3.out.lt)
    have HB4 := Lib.hid (HB3.out.trans (b4.mono (Nat.le_trans (Nat.le_of_eq HQ.out.symm) HB3.out.size)))
    have z0 : ∀ i, w4.frozen? ⟨q, i, none⟩ = false := HO4.out.frozen
    have r0 : w4.cell? ⟨q, 0, none⟩ = some (.int .i64 0) := HO4.out.cell 0
    have r1 : w4.cell? ⟨q, 1, none⟩ = some (.int .u64 0) := HO4.out.cell 1
    have r2 : w4.cell? ⟨q, 2, none⟩ = some (.int .u64 0) := HO4.out.cell 2
    have r3 : w4.cell? ⟨q, 3, none⟩ = some (.int .i64 0) := HO4.out.cell 3
    clear b4 HO2 HB2 HO3 HB3
    unfold tyVal
    go_wp2_with fail
    have hw := (((HB4.out.setCell (p := ⟨q, 0, none⟩) (by simp) (.int .i64 1)).setCell (p := ⟨q, 1, none⟩) (by simp) (.int .u64 0)).setCell (p := ⟨q, 2, none⟩) (by simp) (.int .u64 a2)).setCell (p := ⟨q, 3, none⟩) (by simp) (.int .i64 0)
    have ho := (((HO4.out.set_ 0 (.int .i64 1)).set_ 1 (.int .u64 0)).set_ 2 (.int .u64 a2)).set_ 3 (.int .i64 0)
    generalize (((w4.setCell ⟨q, 0, none⟩ (.int .i64 1)).setCell ⟨q, 1, none⟩ (.int .u64 0)).setCell ⟨q, 2, none⟩ (.int .u64 a2)).setCell ⟨q, 3, none⟩ (.int .i64 0) = w2 at hw ho ⊢
    have HOX := Lib.hid ho
    have s0 : w2.cell? ⟨q, 0, none⟩ = some (.int .i64 1) := HOX.out.cell 0
    have s1 : w2.cell? ⟨q, 1, none⟩ = some (.int .u64 0) := HOX.out.cell 1
    have s2 : w2.cell? ⟨q, 2, none⟩ = some (.int .u64 a2) := HOX.out.cell 2
    have s3 : w2.cell? ⟨q, 3, none⟩ = some (.int .i64 0) := HOX.out.cell 3
    exact bodyPost_ret (v := .tuple #[.agg #[.int .i64 1, .int .u64 0, .int .u64 a2, .int .i64 0], .bool true]) (by simp [results, Tryd.results19, go_sem, s0, s1, s2, s3]) rfl ⟨by rw [hR.out, hD.out], by rw [HQ.out]; exact hw⟩
  · have hR := Lib.hid (show tyVal (rsT y) = .agg #[.int .i64 0, .int .u64 0, .int .u64 0, .int .i64 0] by unfold rsT; rw [if_neg hy7]; rfl)
    have hD := Lib.hid (decide_eq_false hy7)
    rw [hD.out]
    generalize nmB y = a0
    generalize wtB y = a1
    generalize asI y = a3
    generalize adB y = a4
    have HO3 := Lib.hid (HO2.out.alloc (.cells #[.string a0, .string a1, .int .u64 a2, .int .i64 a3, .bool a4] 53))
    have HB3 := Lib.hid (HB2.out.alloc (Nat.le_trans (Nat.le_of_eq HQ.out.symm) HB2.out.size) (.cells #[.string a0, .string a1, .int .u64 a2, .int .i64 a3, .bool a4] 53))
    go_upto_region 3 with fail
    generalize w2.alloc (.cells #[.string a0, .string a1, .int .u64 a2, .int .i64 a3, .bool a4] 53) = w4 at HO3 HB3 ⊢
    have z0 : ∀ i, w4.frozen? ⟨q, i, none⟩ = false := HO3.out.frozen
    have r0 : w4.cell? ⟨q, 0, none⟩ = some (.int .i64 0) := HO3.out.cell 0
    have r1 : w4.cell? ⟨q, 1, none⟩ = some (.int .u64 0) := HO3.out.cell 1
    have r2 : w4.cell? ⟨q, 2, none⟩ = some (.int .u64 0) := HO3.out.cell 2
    have r3 : w4.cell? ⟨q, 3, none⟩ = some (.int .i64 0) := HO3.out.cell 3
    clear HO2 HB2
    go_wp2_with fail
    have hw := (((HB3.out.setCell (p := ⟨q, 0, none⟩) (by simp) (.int .i64 0)).setCell (p := ⟨q, 1, none⟩) (by simp) (.int .u64 0)).setCell (p := ⟨q, 2, none⟩) (by simp) (.int .u64 0)).setCell (p := ⟨q, 3, none⟩) (by simp) (.int .i64 0)
    have ho := (((HO3.out.set_ 0 (.int .i64 0)).set_ 1 (.int .u64 0)).set_ 2 (.int .u64 0)).set_ 3 (.int .i64 0)
    generalize (((w4.setCell ⟨q, 0, none⟩ (.int .i64 0)).setCell ⟨q, 1, none⟩ (.int .u64 0)).setCell ⟨q, 2, none⟩ (.int .u64 0)).setCell ⟨q, 3, none⟩ (.int .i64 0) = w2 at hw ho ⊢
    have HOX := Lib.hid ho
    have s0 : w2.cell? ⟨q, 0, none⟩ = some (.int .i64 0) := HOX.out.cell 0
    have s1 : w2.cell? ⟨q, 1, none⟩ = some (.int .u64 0) := HOX.out.cell 1
    have s2 : w2.cell? ⟨q, 2, none⟩ = some (.int .u64 0) := HOX.out.cell 2
    have s3 : w2.cell? ⟨q, 3, none⟩ = some (.int .i64 0) := HOX.out.cell 3
    exact bodyPost_ret (v := .tuple #[.agg #[.int .i64 0, .int .u64 0, .int .u64 0, .int .i64 0], .bool false]) (by simp [results, Tryd.results19, go_sem, s0, s1, s2, s3]) rfl ⟨by rw [hR.out, hD.out], by rw [HQ.out]; exact hw⟩

end Go.Proofs.YthmfenagdoefcaaDoor
