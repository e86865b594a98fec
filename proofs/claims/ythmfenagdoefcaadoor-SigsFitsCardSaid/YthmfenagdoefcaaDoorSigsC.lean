/-
  Layer 8: Within of the reference; Check of both; awake. Conditions: those of each theorem.
-/
import Derived.Test.YthmfenagdoefcaaDoorSigsB
import Derived.Deep.RegionHeld3
namespace Go.Proofs.YthmfenagdoefcaaDoor
open Go.RowKit

set_option maxRecDepth 100000 in
set_option maxHeartbeats 2000000 in
theorem rhas_any (w : World) (lo hi x : Int) :
    Calls Tryd.prog 31 #[spVal lo hi, .int .u64 x] w fun e w' => e = .returned (.bool (decide (lo ≤ hi ∧ lo ≤ x ∧ x ≤ hi))) ∧ Below w.heap.size w w' := by
  obtain ⟨V, hV⟩ : ∃ V, decide (lo ≤ hi ∧ lo ≤ x ∧ x ≤ hi) = V := ⟨_, rfl⟩
  rw [hV]
  have HV := Lib.hid hV
  clear hV
  have HRA := Lib.hid (fun w => rright_any w lo hi)
  unfold spVal at HRA ⊢
  have B1 := Lib.hid (below_alloc (Below.refl w.heap.size w) (.cells #[.int .u64 lo, .int .u64 hi] 29))
  have OA := Lib.hid (Ob.fresh w 29 [.int .u64 lo, .int .u64 hi])
  go_enter Tryd.func31, Tryd.ntmps31
  go_upto_region 1 with fail
  generalize w.alloc (.cells #[.int .u64 lo, .int .u64 hi] 29) = w1 at B1 OA ⊢
  have a0 : w1.cell? ⟨w.heap.size, 0, none⟩ = some (.int .u64 lo) := OA.out.cell 0
  have a1 : w1.cell? ⟨w.heap.size, 1, none⟩ = some (.int .u64 hi) := OA.out.cell 1
  go_wp2_with fail
  refine (HRA.out w1).mono ?_
  rintro e w2 ⟨rfl, b2⟩
  have B2 := Lib.hid (B1.out.trans (b2.mono B1.out.size))
  have a0 : w2.cell? ⟨w.heap.size, 0, none⟩ = some (.int .u64 lo) := (OA.out.below b2 OA.out.lt).cell 0
  have a1 : w2.cell? ⟨w.heap.size, 1, none⟩ = some (.int .u64 hi) := (OA.out.below b2 OA.out.lt).cell 1
  clear b2 B1 OA
  by_cases h0 : lo ≤ hi
  · have h0d : decide (lo ≤ hi) = true := decide_eq_true h0
    rw [h0d]
    by_cases h1 : lo ≤ x
    · by_cases h2 : x ≤ hi
      · have HR := Lib.hid (show V = true by rw [← HV.out]; exact decide_eq_true ⟨h0, h1, h2⟩)
        go_wp2_with fail
        go_ret
        exact ⟨by rw [HR.out]; simp [*], B2.out⟩
      · have HR := Lib.hid (show V = false by rw [← HV.out]; exact decide_eq_false fun h => h2 h.2.2)
        go_wp2_with fail
        go_ret
        exact ⟨by rw [HR.out]; simp [*], B2.out⟩
    · have HR := Lib.hid (show V = false by rw [← HV.out]; exact decide_eq_false fun h => h1 h.2.1)
      go_wp2_with fail
      go_ret
      exact ⟨by rw [HR.out]; simp [*], B2.out⟩
  · have h0d : decide (lo ≤ hi) = false := decide_eq_false h0
    rw [h0d]
    have HR := Lib.hid (show V = false by rw [← HV.out]; exact decide_eq_false fun h => h0 h.1)
    go_wp2_with fail
    go_ret
    exact ⟨by rw [HR.out]; rfl, B2.out⟩

set_option maxRecDepth 100000 in
set_option maxHeartbeats 2000000 in
theorem rwithin_any (w : World) (al ah bl bh : Int) :
    Calls Tryd.prog 28 #[spVal al ah, spVal bl bh] w fun e w' => e = .returned (.bool (withinB al ah bl bh)) ∧ Below w.heap.size w w' := by
  obtain ⟨V, hV⟩ : ∃ V, withinB al ah bl bh = V := ⟨_, rfl⟩
  rw [hV]
  have HV := Lib.hid hV
  clear hV
  have HRA := Lib.hid (fun w => rright_any w al ah)
  have HRB := Lib.hid (fun w => rright_any w bl bh)
  have HHL := Lib.hid (fun w => rhas_any w bl bh al)
  have HHH := Lib.hid (fun w => rhas_any w bl bh ah)
  unfold spVal at HRA HRB HHL HHH ⊢
  have B1 := Lib.hid (below_alloc (below_alloc (Below.refl w.heap.size w) (.cells #[.int .u64 al, .int .u64 ah] 29)) (.cells #[.int .u64 bl, .int .u64 bh] 29))
  have OA1 := Lib.hid ((Ob.fresh w 29 [.int .u64 al, .int .u64 ah]).alloc (.cells #[.int .u64 bl, .int .u64 bh] 29))
  have OB1 : Hid (Ob ((w.alloc (.cells #[.int .u64 al, .int .u64 ah] 29)).alloc (.cells #[.int .u64 bl, .int .u64 bh] 29)) (w.heap.size + 1) 29 [.int .u64 bl, .int .u64 bh]) := Lib.hid (by
    have h := Ob.fresh (w.alloc (.cells #[.int .u64 al, .int .u64 ah] 29)) 29 [.int .u64 bl, .int .u64 bh]
    simpa using h)
  go_enter Tryd.func28, Tryd.ntmps28
  go_upto_region 1 with fail
  generalize (w.alloc (.cells #[.int .u64 al, .int .u64 ah] 29)).alloc (.cells #[.int .u64 bl, .int .u64 bh] 29) = w1 at B1 OA1 OB1 ⊢
  have a0 : w1.cell? ⟨w.heap.size, 0, none⟩ = some (.int .u64 al) := OA1.out.cell 0
  have a1 : w1.cell? ⟨w.heap.size, 1, none⟩ = some (.int .u64 ah) := OA1.out.cell 1
  have c0 : w1.cell? ⟨w.heap.size + 1, 0, none⟩ = some (.int .u64 bl) := OB1.out.cell 0
  have c1 : w1.cell? ⟨w.heap.size + 1, 1, none⟩ = some (.int .u64 bh) := OB1.out.cell 1
  go_wp2_with fail
  refine (HRA.out w1).mono ?_
  rintro e w2 ⟨rfl, b2⟩
  have B2 := Lib.hid (B1.out.trans (b2.mono B1.out.size))
  have OA2 := Lib.hid (OA1.out.below b2 OA1.out.lt)
  have OB2 := Lib.hid (OB1.out.below b2 OB1.out.lt)
  have a0 : w2.cell? ⟨w.heap.size, 0, none⟩ = some (.int .u64 al) := OA2.out.cell 0
  have a1 : w2.cell? ⟨w.heap.size, 1, none⟩ = some (.int .u64 ah) := OA2.out.cell 1
  have c0 : w2.cell? ⟨w.heap.size + 1, 0, none⟩ = some (.int .u64 bl) := OB2.out.cell 0
  have c1 : w2.cell? ⟨w.heap.size + 1, 1, none⟩ = some (.int .u64 bh) := OB2.out.cell 1
  clear b2 B1 OA1 OB1
  by_cases h0 : al ≤ ah
  · rw [show decide (al ≤ ah) = true from decide_eq_true h0]
    have H0 := Lib.hid h0
    clear h0
    go_wp2_with fail
    refine (HRB.out w2).mono ?_
    rintro e w3 ⟨rfl, b3⟩
    have B3 := Lib.hid (B2.out.trans (b3.mono B2.out.size))
    have OA3 := Lib.hid (OA2.out.below b3 OA2.out.lt)
    have OB3 := Lib.hid (OB2.out.below b3 OB2.out.lt)
    have a0 : w3.cell? ⟨w.heap.size, 0, none⟩ = some (.int .u64 al) := OA3.out.cell 0
    have a1 : w3.cell? ⟨w.heap.size, 1, none⟩ = some (.int .u64 ah) := OA3.out.cell 1
    have c0 : w3.cell? ⟨w.heap.size + 1, 0, none⟩ = some (.int .u64 bl) := OB3.out.cell 0
    have c1 : w3.cell? ⟨w.heap.size + 1, 1, none⟩ = some (.int .u64 bh) := OB3.out.cell 1
    clear b3 B2 OA2 OB2
    by_cases h1 : bl ≤ bh
    · rw [show decide (bl ≤ bh) = true from decide_eq_true h1]
      have H1 := Lib.hid h1
      clear h1
      go_wp2_with fail
      refine (HHL.out w3).mono ?_
      rintro e w4 ⟨rfl, b4⟩
      have B4 := Lib.hid (B3.out.trans (b4.mono B3.out.size))
      have OA4 := Lib.hid (OA3.out.below b4 OA3.out.lt)
      have OB4 := Lib.hid (OB3.out.below b4 OB3.out.lt)
      have a0 : w4.cell? ⟨w.heap.size, 0, none⟩ = some (.int .u64 al) := OA4.out.cell 0
      have a1 : w4.cell? ⟨w.heap.size, 1, none⟩ = some (.int .u64 ah) := OA4.out.cell 1
      have c0 : w4.cell? ⟨w.heap.size + 1, 0, none⟩ = some (.int .u64 bl) := OB4.out.cell 0
      have c1 : w4.cell? ⟨w.heap.size + 1, 1, none⟩ = some (.int .u64 bh) := OB4.out.cell 1
      clear b4 B3 OA3 OB3
      by_cases h2 : bl ≤ bh ∧ bl ≤ al ∧ al ≤ bh
      · rw [show decide (bl ≤ bh ∧ bl ≤ al ∧ al ≤ bh) = true from decide_eq_true h2]
        have H2 := Lib.hid h2
        clear h2
        go_wp2_with fail
        refine (HHH.out w4).mono ?_
        rintro e w5 ⟨rfl, b5⟩
        have B5 := Lib.hid (B4.out.trans (b5.mono B4.out.size))
        have OA5 := Lib.hid (OA4.out.below b5 OA4.out.lt)
        have OB5 := Lib.hid (OB4.out.below b5 OB4.out.lt)
        have a0 : w5.cell? ⟨w.heap.size, 0, none⟩ = some (.int .u64 al) := OA5.out.cell 0
        have a1 : w5.cell? ⟨w.heap.size, 1, none⟩ = some (.int .u64 ah) := OA5.out.cell 1
        have c0 : w5.cell? ⟨w.heap.size + 1, 0, none⟩ = some (.int .u64 bl) := OB5.out.cell 0
        have c1 : w5.cell? ⟨w.heap.size + 1, 1, none⟩ = some (.int .u64 bh) := OB5.out.cell 1
        clear b5 B4 OA4 OB4
        by_cases h3 : bl ≤ bh ∧ bl ≤ ah ∧ ah ≤ bh
        · rw [show decide (bl ≤ bh ∧ bl ≤ ah ∧ ah ≤ bh) = true from decide_eq_true h3]
          have HR := Lib.hid (show V = true by rw [← HV.out]; unfold withinB; exact decide_eq_true ⟨H0.out, H2.out.2.1, h3.2.2⟩)
          clear h3
          go_wp2_with fail
          go_ret
          exact ⟨by rw [HR.out]; rfl, B5.out⟩
        · rw [show decide (bl ≤ bh ∧ bl ≤ ah ∧ ah ≤ bh) = false from decide_eq_false h3]
          have HR := Lib.hid (show V = false by rw [← HV.out]; unfold withinB; exact decide_eq_false fun h => h3 ⟨H1.out, by omega, h.2.2⟩)
          clear h3
          go_wp2_with fail
          go_ret
          exact ⟨by rw [HR.out]; rfl, B5.out⟩
      · rw [show decide (bl ≤ bh ∧ bl ≤ al ∧ al ≤ bh) = false from decide_eq_false h2]
        have HR := Lib.hid (show V = false by rw [← HV.out]; unfold withinB; exact decide_eq_false fun h => h2 ⟨H1.out, h.2.1, by omega⟩)
        clear h2
        go_wp2_with fail
        go_ret
        exact ⟨by rw [HR.out]; rfl, B4.out⟩
    · rw [show decide (bl ≤ bh) = false from decide_eq_false h1]
      have HR := Lib.hid (show V = false by rw [← HV.out]; unfold withinB; exact decide_eq_false fun h => h1 (by have := H0.out; omega))
      clear h1
      go_wp2_with fail
      go_ret
      exact ⟨by rw [HR.out]; rfl, B3.out⟩
  · rw [show decide (al ≤ ah) = false from decide_eq_false h0]
    have HR := Lib.hid (show V = false by rw [← HV.out]; unfold withinB; exact decide_eq_false fun h => h0 h.1)
    clear h0
    go_wp2_with fail
    go_ret
    exact ⟨by rw [HR.out]; rfl, B2.out⟩

/-- what Check answers to lists of one length -/
def ckL : List TypeV → List TypeV → Int
  | t :: W, a :: l => if a.kind ≠ t.kind then 33 else if t.kind = 1 ∧ withinB a.lo a.hi t.lo t.hi = false then 35 else ckL W l
  | _, _ => 0
def ckOf (h : Int) (l : List TypeV) : Int := if hI h < 7 then (if (argsL (hI h)).length = l.length then ckL (argsL (hI h)) l else 2) else 34
theorem drop_at (l : List TypeV) (k : Nat) (h : k < l.length) : l.drop k = l.getD k ty0 :: l.drop (k + 1) := by
  rw [List.drop_eq_getElem_cons h, List.getD_eq_getElem?_getD, List.getElem?_eq_getElem h]; rfl
theorem ckL_at (W l : List TypeV) (k : Nat) (h : k < W.length) (h2 : k < l.length) :
    ckL (W.drop k) (l.drop k) = if (l.getD k ty0).kind ≠ (W.getD k ty0).kind then 33 else if (W.getD k ty0).kind = 1 ∧ withinB (l.getD k ty0).lo (l.getD k ty0).hi (W.getD k ty0).lo (W.getD k ty0).hi = false then 35 else ckL (W.drop (k + 1)) (l.drop (k + 1)) := by
  rw [drop_at W k h, drop_at l k h2, ckL]
theorem argsL_len (y : Nat) : (argsL y).length ≤ 3 := by
  unfold argsL
  rw [wantL_length _ _ (Nat.le_refl _)]
  exact wtB_size y

set_option maxRecDepth 100000 in
set_option maxHeartbeats 8000000 in
theorem check_any (w : World) (h : Int) (l : List TypeV) (A : Option Addr) (n c : Nat) (hn : n = l.length) (hm : n ≤ 4611686018427387904) (ht : Tab w) (hs : Sl w A (tys l)) :
    Calls Tryd.prog 12 #[.int .i64 h, .slice A n c] w fun e w' => e = .returned (.int .i64 (ckOf h l)) ∧ Below w.heap.size w w' := by
  have HN := Lib.hid hn
  have HS := Lib.hid hs
  have HT := Lib.hid ht
  clear hn hs ht
  obtain ⟨V0, hV⟩ : ∃ V, ckOf h l = V := ⟨_, rfl⟩
  rw [hV]
  have HV := Lib.hid hV
  clear hV
  go_enter Tryd.func12, Tryd.ntmps12
  go_wp2_with fail
  refine (of_any w h HT.out).mono ?_
  rintro e w0 ⟨rfl, b0⟩
  unfold sgVal
  generalize nmB (hI h) = a0
  generalize wtB (hI h) = a1
  generalize msU (hI h) = a2
  generalize asI (hI h) = a3
  generalize adB (hI h) = a4
  have B0 := Lib.hid (below_alloc b0 (.cells #[.string a0, .string a1, .int .u64 a2, .int .i64 a3, .bool a4] 53))
  clear b0
  by_cases h7 : hI h < 7
  · rw [show decide (hI h < 7) = true from decide_eq_true h7]
    have H7 := Lib.hid h7
    clear h7
    go_wp2_with fail
    generalize w0.alloc (.cells #[.string a0, .string a1, .int .u64 a2, .int .i64 a3, .bool a4] 53) = w0 at B0 ⊢
    refine (args_any w0 h (HT.out.below B0.out)).mono ?_
    rintro e w1 ⟨v, rfl, hown, b1⟩
    obtain ⟨A1, c1, rfl, hA1, _, hsl, _⟩ := own_form hown
    have HS1 := Lib.hid hsl
    have B1 := Lib.hid (B0.out.trans (b1.mono B0.out.size))
    have hW3 := argsL_len (hI h)
    clear hown hsl b1 B0
    obtain ⟨m, hmm⟩ : ∃ m, (argsL (hI h)).length = m := ⟨_, rfl⟩
    rw [hmm] at hW3 ⊢
    have HM := Lib.hid hmm
    clear hmm
    by_cases hmn : m = n
    · subst hmn
      obtain ⟨V, hV1⟩ : ∃ V, ckL (argsL (hI h)) l = V := ⟨_, rfl⟩
      have HV1 := Lib.hid hV1
      have HVV := Lib.hid (show V0 = V by rw [← HV.out, ← hV1]; unfold ckOf; rw [if_pos H7.out, if_pos (by rw [HM.out, HN.out])])
      clear hV1
      go_wp2_with fail
      go_loopw [26] (fun i wr => ∃ k : Nat, k ≤ m ∧ i = .int .i64 k ∧ Below w1.heap.size w1 wr ∧ ckL ((argsL (hI h)).drop k) (l.drop k) = V) (fun i _ => m - (intOf i).toNat)
      case atStart => exact ⟨0, Nat.zero_le _, rfl, Below.refl _ _, HV1.out⟩
      case round =>
        obtain ⟨k, hk, rfl, hb, hck⟩ := hrel
        have BB := Lib.hid hb
        have HCK := Lib.hid hck
        clear hb hck
        by_cases hlt : k < m
        · have g1 : (k : Int) < (m : Int) := by omega
          have hk1 : k < (argsL (hI h)).length := by rw [HM.out]; exact hlt
          have hk2 : k < l.length := by rw [← HN.out]; exact hlt
          obtain ⟨b, o, rfl, hb1, hc1⟩ := tys_at HS1.out (by omega)
          obtain ⟨b', o', rfl, hb2, hc2⟩ := tys_at HS.out (by omega)
          have f0 : wr.cell? ⟨b, o + k * 4, none⟩ = some ((tyc ((argsL (hI h)).getD k ty0)).getD 0 undef) := (BB.out.cell hb1).trans (hc1 k hk1 0 (by omega))
          have f1 : wr.cell? ⟨b, o + k * 4 + 1, none⟩ = some ((tyc ((argsL (hI h)).getD k ty0)).getD 1 undef) := (BB.out.cell hb1).trans (hc1 k hk1 1 (by omega))
          have f2 : wr.cell? ⟨b, o + k * 4 + 2, none⟩ = some ((tyc ((argsL (hI h)).getD k ty0)).getD 2 undef) := (BB.out.cell hb1).trans (hc1 k hk1 2 (by omega))
          have f3 : wr.cell? ⟨b, o + k * 4 + 3, none⟩ = some ((tyc ((argsL (hI h)).getD k ty0)).getD 3 undef) := (BB.out.cell hb1).trans (hc1 k hk1 3 (by omega))
          have e0 : wr.cell? ⟨b', o' + k * 4, none⟩ = some ((tyc (l.getD k ty0)).getD 0 undef) := (BB.out.cell (Nat.lt_of_lt_of_le hb2 B1.out.size)).trans ((B1.out.cell hb2).trans (hc2 k hk2 0 (by omega)))
          have e1 : wr.cell? ⟨b', o' + k * 4 + 1, none⟩ = some ((tyc (l.getD k ty0)).getD 1 undef) := (BB.out.cell (Nat.lt_of_lt_of_le hb2 B1.out.size)).trans ((B1.out.cell hb2).trans (hc2 k hk2 1 (by omega)))
          have e2 : wr.cell? ⟨b', o' + k * 4 + 2, none⟩ = some ((tyc (l.getD k ty0)).getD 2 undef) := (BB.out.cell (Nat.lt_of_lt_of_le hb2 B1.out.size)).trans ((B1.out.cell hb2).trans (hc2 k hk2 2 (by omega)))
          have HST := Lib.hid (ckL_at (argsL (hI h)) l k hk1 hk2)
          clear hc1 hc2 hk1 hk2
          generalize (argsL (hI h)).getD k ty0 = t at f0 f1 f2 f3 HST
          generalize l.getD k ty0 = a at e0 e1 e2 HST
          obtain ⟨tk, tl, th, tm⟩ := t
          obtain ⟨ak, al, ah, am⟩ := a
          replace f0 : wr.cell? ⟨b, o + k * 4, none⟩ = some (.int .i64 tk) := f0
          replace f1 : wr.cell? ⟨b, o + k * 4 + 1, none⟩ = some (.int .u64 tl) := f1
          replace f2 : wr.cell? ⟨b, o + k * 4 + 2, none⟩ = some (.int .u64 th) := f2
          replace f3 : wr.cell? ⟨b, o + k * 4 + 3, none⟩ = some (.int .i64 tm) := f3
          replace e0 : wr.cell? ⟨b', o' + k * 4, none⟩ = some (.int .i64 ak) := e0
          replace e1 : wr.cell? ⟨b', o' + k * 4 + 1, none⟩ = some (.int .u64 al) := e1
          replace e2 : wr.cell? ⟨b', o' + k * 4 + 2, none⟩ = some (.int .u64 ah) := e2
          have HST2 : Hid (V = if ak ≠ tk then 33 else if tk = 1 ∧ withinB al ah tl th = false then 35 else ckL ((argsL (hI h)).drop (k + 1)) (l.drop (k + 1))) := Lib.hid (HCK.out.symm.trans HST.out)
          clear HST
          have OX := Lib.hid (Ob.fresh wr 31 [.int .i64 tk, .int .u64 tl, .int .u64 th, .int .i64 tm])
          have BX := Lib.hid (below_alloc BB.out (.cells #[.int .i64 tk, .int .u64 tl, .int .u64 th, .int .i64 tm] 31))
          have hal := below_alloc (Below.refl wr.heap.size wr) (.cells #[.int .i64 tk, .int .u64 tl, .int .u64 th, .int .i64 tm] 31)
          have x0 := (hal.cell (cell_lt e0)).trans e0
          have x1 := (hal.cell (cell_lt e1)).trans e1
          have x2 := (hal.cell (cell_lt e2)).trans e2
          clear hal hb1 hb2
          go_upto_region 10 with fail
          generalize wr.alloc (.cells #[.int .i64 tk, .int .u64 tl, .int .u64 th, .int .i64 tm] 31) = wx at OX BX x0 x1 x2 ⊢
          generalize wr.heap.size = q at OX ⊢
          clear f0 f1 f2 f3 e0 e1 e2
          have q0 : wx.cell? ⟨q, 0, none⟩ = some (.int .i64 tk) := OX.out.cell 0
          have q1 : wx.cell? ⟨q, 1, none⟩ = some (.int .u64 tl) := OX.out.cell 1
          have q2 : wx.cell? ⟨q, 2, none⟩ = some (.int .u64 th) := OX.out.cell 2
          by_cases hkk : ak = tk
          · subst hkk
            go_wp2_with fail
            go_quiet (fail)
            by_cases hk1 : ak = 1
            · subst hk1
              have HWA := Lib.hid (fun w => within_any w al ah tl th)
              unfold spVal at HWA
              obtain ⟨wb, hwb⟩ : ∃ b, withinB al ah tl th = b := ⟨_, rfl⟩
              rw [hwb] at HST2 HWA
              clear hwb
              have HST3 := Lib.hid (show V = if wb = false then 35 else ckL ((argsL (hI h)).drop (k + 1)) (l.drop (k + 1)) by simpa using HST2.out)
              clear HST2
              go_upto_region 12 with fail
              have BY := Lib.hid (below_drewN BX.out nq)
              have OY := Lib.hid (OX.out.drewN nq)
              have y1 : (wx.drewN nq).cell? ⟨b', o' + k * 4 + 1, none⟩ = some (.int .u64 al) := x1
              have y2 : (wx.drewN nq).cell? ⟨b', o' + k * 4 + 2, none⟩ = some (.int .u64 ah) := x2
              generalize wx.drewN nq = wy at BY OY y1 y2 ⊢
              clear BX OX x0 x1 x2 q0 q1 q2
              have q0 : wy.cell? ⟨q, 0, none⟩ = some (.int .i64 1) := OY.out.cell 0
              have q1 : wy.cell? ⟨q, 1, none⟩ = some (.int .u64 tl) := OY.out.cell 1
              have q2 : wy.cell? ⟨q, 2, none⟩ = some (.int .u64 th) := OY.out.cell 2
              have Y1 := Lib.hid y1
              have Y2 := Lib.hid y2
              go_region_held3 (fun w' => w'.cell? ⟨b', o' + k * 4 + 1, none⟩ = some (.int .u64 al) ∧ w'.cell? ⟨b', o' + k * 4 + 2, none⟩ = some (.int .u64 ah) ∧ w'.cell? ⟨q, 0, none⟩ = some (.int .i64 1) ∧ w'.cell? ⟨q, 1, none⟩ = some (.int .u64 tl) ∧ w'.cell? ⟨q, 2, none⟩ = some (.int .u64 th)) (go_keep)
                (first
                 | (go_at_call 27
                    refine (HWA.out wy.drew).mono ?_
                    rintro e w5 ⟨rfl, b5⟩
                    have BZ := Lib.hid ((below_drewN BY.out 1).trans (b5.mono (below_drewN BY.out 1).size))
                    have z1 : w5.cell? ⟨b', o' + k * 4 + 1, none⟩ = some (.int .u64 al) := (b5.cell (cell_lt Y1.out)).trans Y1.out
                    have z2 : w5.cell? ⟨b', o' + k * 4 + 2, none⟩ = some (.int .u64 ah) := (b5.cell (cell_lt Y2.out)).trans Y2.out
                    have O5 := Lib.hid (OY.out.drew.below b5 OY.out.drew.lt)
                    have d0 : w5.cell? ⟨q, 0, none⟩ = some (.int .i64 1) := O5.out.cell 0
                    have d1 : w5.cell? ⟨q, 1, none⟩ = some (.int .u64 tl) := O5.out.cell 1
                    have d2 : w5.cell? ⟨q, 2, none⟩ = some (.int .u64 th) := O5.out.cell 2
                    clear b5))
              clear z1 z2 d0 d1 d2 O5 y1 y2 q0 q1 q2
              cases wb
              · have HR := Lib.hid (show V0 = 35 by rw [HVV.out, HST3.out, if_pos rfl])
                go_wp2_with fail
                go_ret
                exact ⟨by rw [HR.out]; rfl, B1.out.trans (BZ.out.mono B1.out.size)⟩
              · have HST4 := Lib.hid (show ckL ((argsL (hI h)).drop (k + 1)) (l.drop (k + 1)) = V by rw [HST3.out, if_neg (by decide)])
                go_wp2_with fail
                go_roundw
                case rel => exact ⟨k + 1, by omega, by go_num, BZ.out, HST4.out⟩
                case measure => simp [intOf]; omega
            · have hk1' : (ak == 1) = false := by simpa using hk1
              have HST3 := Lib.hid (show ckL ((argsL (hI h)).drop (k + 1)) (l.drop (k + 1)) = V by rw [HST2.out, if_neg (fun h => h rfl), if_neg (fun h => hk1 h.1)])
              go_wp2_with fail
              go_quiet (fail)
              go_wp2_with fail
              go_roundw
              case rel => exact ⟨k + 1, by omega, by go_num, below_drewN BX.out _, HST3.out⟩
              case measure => simp [intOf]; omega
          · have hkk' : (tk == ak) = false := by simp; exact fun e => hkk e.symm
            have HR := Lib.hid (show V0 = 33 by rw [HVV.out, HST2.out, if_pos hkk])
            go_wp2_with fail
            go_quiet (fail)
            go_wp2_with fail
            go_ret
            exact ⟨by rw [HR.out]; rfl, B1.out.trans (below_drewN (BX.out.mono B1.out.size) _)⟩
        · have g1 : ¬ (k : Int) < (m : Int) := by omega
          have HR := Lib.hid (show V0 = 0 by rw [HVV.out, ← HCK.out, List.drop_of_length_le (by rw [HM.out]; omega)]; rfl)
          go_wp2_with fail
          go_ret
          exact ⟨by rw [HR.out]; rfl, B1.out.trans (BB.out.mono B1.out.size)⟩
    · have hmn' : ((m : Int) == (n : Int)) = false := by simp; omega
      have HR := Lib.hid (show V0 = 2 by rw [← HV.out]; unfold ckOf; rw [if_pos H7.out, if_neg (by rw [HM.out, ← HN.out]; exact hmn)])
      go_wp2_with fail
      go_ret
      exact ⟨by rw [HR.out]; rfl, B1.out⟩
  · rw [show decide (hI h < 7) = false from decide_eq_false h7]
    have HR := Lib.hid (show V0 = 34 by rw [← HV.out]; unfold ckOf; rw [if_neg h7])
    clear h7
    go_wp2_with fail
    go_ret
    exact ⟨by rw [HR.out]; rfl, B0.out⟩

end Go.Proofs.YthmfenagdoefcaaDoor
