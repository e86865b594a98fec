/-
  Layer 6: Right, Single, Full, single, Has of both; min and max of a list of spans. Conditions: those of each theorem.
  Layer 6: Join and Meet of both. Conditions: those of each theorem.
  Layer 6: the reference's Join and Meet. Conditions: those of each theorem.
  Layer 6: awake. Conditions: none.
-/
import Derived.Test.YtikkmkomlajnfaaGreatDoorRows
import Derived.Test.YtikkmkomlajnfaaGreatDoorWm02
import Derived.Test.YtikkmkomlajnfaaGreatDoorWm01
import Derived.LoopTactic
import Derived.BigRegion
import Derived.BigQuiet
import Derived.Deep.RegionWith
import Derived.Deep.DeepCutAuto
import Derived.Deep.RegionHeld3
set_option linter.unusedVariables false
set_option linter.unusedSimpArgs false
section
namespace Go.Proofs.YtikkmkomlajnfaaGreatDoor.Sp
set_option maxRecDepth 100000
set_option maxHeartbeats 2000000
open Go.RowKit

structure SpanV where
 lo : Int
 hi : Int
def sp0 : SpanV := ⟨0, 0⟩
def spc (a : SpanV) : List Value := [.int .u64 a.lo, .int .u64 a.hi]
def sps (l : List SpanV) : List Value := l.flatMap spc
/-- a span as a value -/
def spVal (lo hi : Int) : Value := .agg #[.int .u64 lo, .int .u64 hi]
def withinB (al ah bl bh : Int) : Bool := decide (al ≤ ah ∧ bl ≤ al ∧ ah ≤ bh)
theorem right_any (w : World) (lo hi : Int) :
 Calls Tryz.prog 124 #[spVal lo hi] w fun e w' => e = .returned (.bool (decide (lo ≤ hi))) ∧ Below w.heap.size w w' := by
 unfold spVal
 have HB := Lib.hid (below_alloc (Below.refl w.heap.size w) (.cells #[.int .u64 lo, .int .u64 hi] 132))
 by_cases h : lo ≤ hi
 · have h2 : ¬ hi < lo := by omega
   rw [decide_eq_true h]
   go_enter Tryz.func124, Tryz.ntmps124
   go_wp2_with fail
   go_ret
   exact ⟨by simp [*], HB.out⟩
 have h2 : hi < lo := by omega
 rw [decide_eq_false h]
 go_enter Tryz.func124, Tryz.ntmps124
 go_wp2_with fail
 go_ret
 exact ⟨by simp [*], HB.out⟩

theorem within_any (w : World) (al ah bl bh : Int) :
 Calls Tryz.prog 121 #[spVal al ah, spVal bl bh] w fun e w' => e = .returned (.bool (withinB al ah bl bh)) ∧ Below w.heap.size w w' := by
 obtain ⟨V, hV⟩ : ∃ V, withinB al ah bl bh = V := ⟨_, rfl⟩
 rw [hV]
 have HV := Lib.hid hV
 clear hV
 have HRA := Lib.hid (fun w => right_any w al ah)
 unfold spVal at HRA ⊢
 have B1 := Lib.hid (below_alloc (below_alloc (Below.refl w.heap.size w) (.cells #[.int .u64 al, .int .u64 ah] 132)) (.cells #[.int .u64 bl, .int .u64 bh] 132))
 have OA := Lib.hid ((Ob.fresh w 132 [.int .u64 al, .int .u64 ah]).alloc (.cells #[.int .u64 bl, .int .u64 bh] 132))
 have OB : Hid (Ob ((w.alloc (.cells #[.int .u64 al, .int .u64 ah] 132)).alloc (.cells #[.int .u64 bl, .int .u64 bh] 132)) (w.heap.size + 1) 132 [.int .u64 bl, .int .u64 bh]) := Lib.hid (by
  have h := Ob.fresh (w.alloc (.cells #[.int .u64 al, .int .u64 ah] 132)) 132 [.int .u64 bl, .int .u64 bh]
  simpa using h)
 go_enter Tryz.func121, Tryz.ntmps121
 go_upto_region 1 with fail
 generalize (w.alloc (.cells #[.int .u64 al, .int .u64 ah] 132)).alloc (.cells #[.int .u64 bl, .int .u64 bh] 132) = w1 at B1 OA OB ⊢
 have a0 : w1.cell? ⟨w.heap.size, 0, none⟩ = some (.int .u64 al) := OA.out.cell 0
 have a1 : w1.cell? ⟨w.heap.size, 1, none⟩ = some (.int .u64 ah) := OA.out.cell 1
 go_wp2_with fail
 refine (HRA.out w1).mono ?_
 rintro e w2 ⟨rfl, b2⟩
 have B2 := Lib.hid (B1.out.trans (b2.mono B1.out.size))
 have a0 : w2.cell? ⟨w.heap.size, 0, none⟩ = some (.int .u64 al) := (OA.out.below b2 OA.out.lt).cell 0
 have a1 : w2.cell? ⟨w.heap.size, 1, none⟩ = some (.int .u64 ah) := (OA.out.below b2 OA.out.lt).cell 1
 have c0 : w2.cell? ⟨w.heap.size + 1, 0, none⟩ = some (.int .u64 bl) := (OB.out.below b2 OB.out.lt).cell 0
 have c1 : w2.cell? ⟨w.heap.size + 1, 1, none⟩ = some (.int .u64 bh) := (OB.out.below b2 OB.out.lt).cell 1
 clear b2 B1 OA OB
 by_cases h0 : al ≤ ah
 · have h0d : decide (al ≤ ah) = true := decide_eq_true h0
   rw [h0d]
   by_cases h1 : bl ≤ al
   · by_cases h2 : ah ≤ bh
     · have HR := Lib.hid (show V = true by rw [← HV.out]; unfold withinB; exact decide_eq_true ⟨h0, h1, h2⟩)
       go_wp2_with fail
       go_ret
       exact ⟨by rw [HR.out]; simp [*], B2.out⟩
     have HR := Lib.hid (show V = false by rw [← HV.out]; unfold withinB; exact decide_eq_false fun h => h2 h.2.2)
     go_wp2_with fail
     go_ret
     exact ⟨by rw [HR.out]; simp [*], B2.out⟩
   have HR := Lib.hid (show V = false by rw [← HV.out]; unfold withinB; exact decide_eq_false fun h => h1 h.2.1)
   go_wp2_with fail
   go_ret
   exact ⟨by rw [HR.out]; simp [*], B2.out⟩
 have h0d : decide (al ≤ ah) = false := decide_eq_false h0
 rw [h0d]
 have HR := Lib.hid (show V = false by rw [← HV.out]; unfold withinB; exact decide_eq_false fun h => h0 h.1)
 go_wp2_with fail
 go_ret
 exact ⟨by rw [HR.out]; rfl, B2.out⟩

theorem isone_any (w : World) (lo hi : Int) :
 Calls Tryz.prog 125 #[spVal lo hi] w fun e w' => e = .returned (.bool (lo == hi)) ∧ Below w.heap.size w w' := by
 unfold spVal
 have HB := Lib.hid (below_alloc (Below.refl w.heap.size w) (.cells #[.int .u64 lo, .int .u64 hi] 132))
 go_enter Tryz.func125, Tryz.ntmps125
 go_wp2_with fail
 go_ret
 exact ⟨rfl, HB.out⟩

theorem single_any (w : World) (n : Int) :
 Calls Tryz.prog 120 #[.int .u64 n] w fun e w' => e = .returned (spVal n n) ∧ Below w.heap.size w w' := by
 have HO := Lib.hid (Ob.fresh w 132 [.int .u64 n, .int .u64 n])
 have HB := Lib.hid (below_alloc (Below.refl w.heap.size w) (.cells #[.int .u64 n, .int .u64 n] 132))
 go_enter Tryz.func120, Tryz.ntmps120
 go_wp2_with fail
 generalize w.alloc (.cells #[.int .u64 n, .int .u64 n] 132) = w2 at HO HB ⊢
 have s0 : w2.cell? ⟨w.heap.size, 0, none⟩ = some (.int .u64 n) := HO.out.cell 0
 have s1 : w2.cell? ⟨w.heap.size, 1, none⟩ = some (.int .u64 n) := HO.out.cell 1
 exact bodyPost_ret (v := spVal n n) (by simp [results, Tryz.results120, go_sem, spVal, s0, s1]) rfl ⟨rfl, HB.out⟩

theorem full_any (w : World)  :
 Calls Tryz.prog 80 #[] w fun e w' => e = .returned (spVal 0 18446744073709551615) ∧ Below w.heap.size w w' := by
 have HO := Lib.hid (Ob.fresh w 132 [.int .u64 0, .int .u64 18446744073709551615])
 have HB := Lib.hid (below_alloc (Below.refl w.heap.size w) (.cells #[.int .u64 0, .int .u64 18446744073709551615] 132))
 go_enter Tryz.func80, Tryz.ntmps80
 go_wp2_with fail
 generalize w.alloc (.cells #[.int .u64 0, .int .u64 18446744073709551615] 132) = w2 at HO HB ⊢
 have s0 : w2.cell? ⟨w.heap.size, 0, none⟩ = some (.int .u64 0) := HO.out.cell 0
 have s1 : w2.cell? ⟨w.heap.size, 1, none⟩ = some (.int .u64 18446744073709551615) := HO.out.cell 1
 exact bodyPost_ret (v := spVal 0 18446744073709551615) (by simp [results, Tryz.results80, go_sem, spVal, s0, s1]) rfl ⟨rfl, HB.out⟩

end Go.Proofs.YtikkmkomlajnfaaGreatDoor.Sp
end

section
namespace Go.Proofs.YtikkmkomlajnfaaGreatDoor.Sp
set_option maxRecDepth 100000
set_option maxHeartbeats 8000000
open Go.RowKit

def mn (a b : Int) : Int := if b < a then b else a
def mx (a b : Int) : Int := if a < b then b else a
def loMin (l : List SpanV) : Int := l.foldl (fun a s => mn a s.lo) 18446744073709551615
def hiMax (l : List SpanV) : Int := l.foldl (fun a s => mx a s.hi) 0
def loMax (l : List SpanV) : Int := l.foldl (fun a s => mx a s.lo) 0
def hiMin (l : List SpanV) : Int := l.foldl (fun a s => mn a s.hi) 18446744073709551615
def allR (l : List SpanV) : Bool := l.all fun s => decide (s.lo ≤ s.hi)
theorem take_snoc (l : List SpanV) (k : Nat) (h : k < l.length) : l.take (k + 1) = l.take k ++ [l.getD k sp0] := by
 rw [List.take_succ_eq_append_getElem h, List.getD_eq_getElem?_getD, List.getElem?_eq_getElem h]; rfl
theorem loMin_take (l : List SpanV) (k : Nat) (h : k < l.length) : loMin (l.take (k + 1)) = mn (loMin (l.take k)) (l.getD k sp0).lo := by rw [take_snoc l k h]; unfold loMin; rw [List.foldl_append]; rfl
theorem hiMax_take (l : List SpanV) (k : Nat) (h : k < l.length) : hiMax (l.take (k + 1)) = mx (hiMax (l.take k)) (l.getD k sp0).hi := by rw [take_snoc l k h]; unfold hiMax; rw [List.foldl_append]; rfl
theorem loMax_take (l : List SpanV) (k : Nat) (h : k < l.length) : loMax (l.take (k + 1)) = mx (loMax (l.take k)) (l.getD k sp0).lo := by rw [take_snoc l k h]; unfold loMax; rw [List.foldl_append]; rfl
theorem hiMin_take (l : List SpanV) (k : Nat) (h : k < l.length) : hiMin (l.take (k + 1)) = mn (hiMin (l.take k)) (l.getD k sp0).hi := by rw [take_snoc l k h]; unfold hiMin; rw [List.foldl_append]; rfl
theorem allR_take (l : List SpanV) (k : Nat) (h : k < l.length) : allR (l.take (k + 1)) = (allR (l.take k) && decide ((l.getD k sp0).lo ≤ (l.getD k sp0).hi)) := by rw [take_snoc l k h]; unfold allR; rw [List.all_append]; simp
theorem allR_cut (l : List SpanV) (k : Nat) (h : allR (l.take k) = false) : allR l = false := by
 unfold allR at h ⊢
 rw [← List.take_append_drop k l, List.all_append, h]
 rfl
def jnV (l : List SpanV) : SpanV := if allR l = true ∧ 0 < l.length then ⟨loMin l, hiMax l⟩ else sp0
def jnB (l : List SpanV) : Bool := decide (allR l = true ∧ 0 < l.length)
def mtV (l : List SpanV) : SpanV := if allR l = true ∧ 0 < l.length ∧ loMax l ≤ hiMin l then ⟨loMax l, hiMin l⟩ else sp0
def mtB (l : List SpanV) : Bool := decide (allR l = true ∧ 0 < l.length ∧ loMax l ≤ hiMin l)
theorem sps_length (l : List SpanV) : (sps l).length = l.length * 2 := flat_length spc 2 (fun _ => rfl) l
theorem sps_at {w : World} {A : Option Addr} {l : List SpanV} (h : Sl w A (sps l)) (hn : 0 < l.length) :
 ∃ b o, A = some ⟨b, o, none⟩ ∧ b < w.heap.size ∧ ∀ k, k < l.length → w.cell? ⟨b, o + k * 2, none⟩ = some (.int .u64 (l.getD k sp0).lo) ∧ w.cell? ⟨b, o + k * 2 + 1, none⟩ = some (.int .u64 (l.getD k sp0).hi) := by
 obtain ⟨b, o, e, hc⟩ := h (by rw [sps_length]; omega)
 rw [sps_length] at hc
 refine ⟨b, o, e, cell_lt (hc 0 (by omega)), fun k hk => ⟨?_, ?_⟩⟩
 · have h1 := hc (k * 2) (by omega)
   have h2 : (sps l)[k * 2 + 0]? = (spc (l.getD k sp0))[0]? := flat_get sp0 spc 2 (fun _ => rfl) l k 0 hk (by omega)
   rw [h1, List.getD_eq_getElem?_getD (l := sps l), show k * 2 = k * 2 + 0 from rfl, h2]
   rfl
 have h1 := hc (k * 2 + 1) (by omega)
 have h2 : (sps l)[k * 2 + 1]? = (spc (l.getD k sp0))[1]? := flat_get sp0 spc 2 (fun _ => rfl) l k 1 hk (by omega)
 rw [← Nat.add_assoc] at h1
 rw [h1, List.getD_eq_getElem?_getD (l := sps l), h2]
 rfl

theorem join_any (w : World) (l : List SpanV) (A : Option Addr) (n c : Nat) (hn : n = l.length) (hm : n ≤ 4611686018427387904) (hs : Sl w A (sps l)) :
 Calls Tryz.prog 151 #[.slice A n c] w fun e w' => e = .returned (.tuple #[spVal (jnV l).lo (jnV l).hi, .bool (jnB l)]) ∧ Below w.heap.size w w' := by
 have HN := Lib.hid hn
 have HS := Lib.hid hs
 obtain ⟨R, hR⟩ : ∃ R, Value.tuple #[spVal (jnV l).lo (jnV l).hi, .bool (jnB l)] = R := ⟨_, rfl⟩
 rw [hR]
 have HR := Lib.hid hR
 clear hn hs hR
 have O1 := Lib.hid (Ob.fresh w 132 [.int .u64 0, .int .u64 0])
 have B1 := Lib.hid (below_alloc (Below.refl w.heap.size w) (.cells #[.int .u64 0, .int .u64 0] 132))
 have HPS := Lib.hid (Nat.le_refl w.heap.size)
 go_enter Tryz.func151, Tryz.ntmps151
 have O3 := Lib.hid (O1.out.alloc (.cells #[.int .u64 18446744073709551615, .int .u64 0] 132))
 have Q3 : Hid (Ob ((w.alloc (.cells #[.int .u64 0, .int .u64 0] 132)).alloc (.cells #[.int .u64 18446744073709551615, .int .u64 0] 132)) (w.heap.size + 1) 132 [.int .u64 18446744073709551615, .int .u64 0]) := Lib.hid (by
  have h := Ob.fresh (w.alloc (.cells #[.int .u64 0, .int .u64 0] 132)) 132 [.int .u64 18446744073709551615, .int .u64 0]
  simpa using h)
 have B3 := Lib.hid (below_alloc B1.out (.cells #[.int .u64 18446744073709551615, .int .u64 0] 132))
 have HQS : Hid (w.heap.size ≤ w.heap.size + 1) := Lib.hid (by omega)
 have hpq : Hid (w.heap.size ≠ w.heap.size + 1) := Lib.hid (by omega)
 clear O1 B1
 go_wp2_with fail
 generalize (w.alloc (.cells #[.int .u64 0, .int .u64 0] 132)).alloc (.cells #[.int .u64 18446744073709551615, .int .u64 0] 132) = w3 at O3 Q3 B3 ⊢
 obtain ⟨Q, hQ⟩ : ∃ Q, w.heap.size + 1 = Q := ⟨_, rfl⟩
 rw [hQ] at Q3 HQS hpq ⊢
 obtain ⟨P, hP⟩ : ∃ P, w.heap.size = P := ⟨_, rfl⟩
 rw [hP] at hpq O3 HPS ⊢
 have HPS : Hid (w.heap.size ≤ P) := Lib.hid (Nat.le_of_eq hP)
 clear hP hQ
 go_loopw [10] (fun i wr => ∃ k : Nat, k ≤ n ∧ i = .int .i64 k ∧ Ob wr P 132 [.int .u64 0, .int .u64 0] ∧ Ob wr Q 132 [.int .u64 (loMin (l.take k)), .int .u64 (hiMax (l.take k))] ∧ Below w.heap.size w wr ∧ allR (l.take k) = true) (fun i _ => n - (intOf i).toNat)
 case atStart => exact ⟨0, Nat.zero_le _, rfl, O3.out, Q3.out, B3.out, rfl⟩
 case round =>
  obtain ⟨k, hk, rfl, hop, hoq, hb, hal⟩ := hrel
  have OP := Lib.hid hop
  have OQ := Lib.hid hoq
  have BB := Lib.hid hb
  have HAL := Lib.hid hal
  clear hop hoq hb hal O3 Q3 B3
  by_cases hlt : k < n
  · have g1 : (k : Int) < (n : Int) := by omega
    have hkl : k < l.length := by have := HN.out; omega
    obtain ⟨b, o, rfl, hbl, hcc⟩ := sps_at HS.out (by omega)
    have f0 := (BB.out.cell hbl).trans (hcc k hkl).1
    have f1 := (BB.out.cell hbl).trans (hcc k hkl).2
    have HA2 := Lib.hid (allR_take l k hkl)
    have H1 := Lib.hid (loMin_take l k hkl)
    have H2 := Lib.hid (hiMax_take l k hkl)
    have HCUT := Lib.hid (allR_cut l (k + 1))
    clear hcc hkl
    generalize l.getD k sp0 = s at f0 f1 HA2 H1 H2
    obtain ⟨sl, sh⟩ := s
    dsimp only at f0 f1 HA2 H1 H2
    have QX := Lib.hid (Ob.fresh wr 132 [.int .u64 sl, .int .u64 sh])
    have PX := Lib.hid (OP.out.alloc (.cells #[.int .u64 sl, .int .u64 sh] 132))
    have AX := Lib.hid (OQ.out.alloc (.cells #[.int .u64 sl, .int .u64 sh] 132))
    have BX := Lib.hid (below_alloc BB.out (.cells #[.int .u64 sl, .int .u64 sh] 132))
    go_upto_region 5 with fail
    generalize wr.alloc (.cells #[.int .u64 sl, .int .u64 sh] 132) = wx at QX PX AX BX ⊢
    generalize wr.heap.size = q at QX ⊢
    have c0 := QX.out.c0
    have c1 := QX.out.c1
    clear f0 f1 OP OQ BB
    have HRT := Lib.hid (fun w => right_any w sl sh)
    unfold spVal at HRT
    go_wp2_with fail
    refine (HRT.out wx).mono ?_
    rintro e wy ⟨rfl, by_⟩
    have QY := Lib.hid (QX.out.below by_ QX.out.lt)
    have PY := Lib.hid (PX.out.below by_ PX.out.lt)
    have AY := Lib.hid (AX.out.below by_ AX.out.lt)
    have BY := Lib.hid (BX.out.trans (by_.mono BX.out.size))
    clear by_ c0 c1 QX PX AX BX
    by_cases hr : sl ≤ sh
    · rw [show decide (sl ≤ sh) = true from decide_eq_true hr]
      have HAL2 := Lib.hid (show allR (l.take (k + 1)) = true by rw [HA2.out, HAL.out, decide_eq_true hr]; rfl)
      clear hr
      generalize loMin (l.take k) = x at H1 AY
      generalize hiMax (l.take k) = y at H2 AY
      have c0 := QY.out.c0
      have c1 := QY.out.c1
      have d0 := AY.out.c0
      have d1 := AY.out.c1
      have z0 := AY.out.frozen
      go_wp2_with fail
      go_roundw
      case rel =>
       refine ⟨k + 1, by omega, by go_num, (PY.out.far hpq.out _).far hpq.out _, ?_, (BY.out.setCell HQS.out _).setCell HQS.out _, HAL2.out⟩
       rw [H1.out, H2.out]
       exact (AY.out.set_ 0 _).set_ 1 _
      case measure => simp [intOf]; omega
    rw [show decide (sl ≤ sh) = false from decide_eq_false hr]
    have HAF := Lib.hid (HCUT.out (by rw [HA2.out, decide_eq_false hr, Bool.and_false]))
    have HR2 := Lib.hid (show R = .tuple #[.agg #[.int .u64 0, .int .u64 0], .bool false] by rw [← HR.out]; unfold jnV jnB; rw [if_neg (by rw [HAF.out]; simp), decide_eq_false (by rw [HAF.out]; simp)]; rfl)
    clear hr
    have d0 := PY.out.c0
    have d1 := PY.out.c1
    have z0 := PY.out.frozen
    go_wp2_with fail
    have hw := (BY.out.setCell (p := ⟨P, 0, none⟩) HPS.out (.int .u64 0)).setCell (p := ⟨P, 1, none⟩) HPS.out (.int .u64 0)
    have HOX := Lib.hid ((PY.out.set_ 0 (.int .u64 0)).set_ 1 (.int .u64 0))
    generalize (wy.setCell ⟨P, 0, none⟩ (.int .u64 0)).setCell ⟨P, 1, none⟩ (.int .u64 0) = wf at hw HOX ⊢
    have t0 := HOX.out.c0
    have t1 := HOX.out.c1
    exact bodyPost_ret (v := .tuple #[.agg #[.int .u64 0, .int .u64 0], .bool false]) (by simp [results, Tryz.results151, go_sem, t0, t1]) rfl ⟨by rw [HR2.out], hw⟩
  have g1 : ¬ (k : Int) < (n : Int) := by omega
  have hkn : l.take k = l := List.take_of_length_le (by have := HN.out; omega)
  rw [hkn] at OQ HAL
  clear hkn
  have d0 := OP.out.c0
  have d1 := OP.out.c1
  have z0 := OP.out.frozen
  have a0 := OQ.out.c0
  have a1 := OQ.out.c1
  by_cases hn0 : n = 0
  · have HR2 := Lib.hid (show R = .tuple #[.agg #[.int .u64 0, .int .u64 0], .bool false] by rw [← HR.out]; unfold jnV jnB; rw [if_neg (by rw [← HN.out, hn0]; simp), decide_eq_false (by rw [← HN.out, hn0]; simp)]; rfl)
    subst hn0
    go_wp2_with fail
    have hw := (BB.out.setCell (p := ⟨P, 0, none⟩) HPS.out (.int .u64 0)).setCell (p := ⟨P, 1, none⟩) HPS.out (.int .u64 0)
    have HOX := Lib.hid ((OP.out.set_ 0 (.int .u64 0)).set_ 1 (.int .u64 0))
    generalize (wr.setCell ⟨P, 0, none⟩ (.int .u64 0)).setCell ⟨P, 1, none⟩ (.int .u64 0) = wf at hw HOX ⊢
    have t0 := HOX.out.c0
    have t1 := HOX.out.c1
    exact bodyPost_ret (v := .tuple #[.agg #[.int .u64 0, .int .u64 0], .bool false]) (by simp [results, Tryz.results151, go_sem, t0, t1]) rfl ⟨by rw [HR2.out], hw⟩
  have hn1 : ((n : Int) == 0) = false := by simp; omega
  have HR2 := Lib.hid (show R = .tuple #[.agg #[.int .u64 (loMin l), .int .u64 (hiMax l)], .bool true] by rw [← HR.out]; unfold jnV jnB; rw [if_pos ⟨HAL.out, by rw [← HN.out]; omega⟩, decide_eq_true ⟨HAL.out, by rw [← HN.out]; omega⟩]; rfl)
  generalize loMin l = x at a0 HR2
  generalize hiMax l = y at a1 HR2
  go_wp2_with fail
  have hw := (BB.out.setCell (p := ⟨P, 0, none⟩) HPS.out (.int .u64 x)).setCell (p := ⟨P, 1, none⟩) HPS.out (.int .u64 y)
  have HOX := Lib.hid ((OP.out.set_ 0 (.int .u64 x)).set_ 1 (.int .u64 y))
  generalize (wr.setCell ⟨P, 0, none⟩ (.int .u64 x)).setCell ⟨P, 1, none⟩ (.int .u64 y) = wf at hw HOX ⊢
  have t0 := HOX.out.c0
  have t1 := HOX.out.c1
  exact bodyPost_ret (v := .tuple #[.agg #[.int .u64 x, .int .u64 y], .bool true]) (by simp [results, Tryz.results151, go_sem, t0, t1]) rfl ⟨by rw [HR2.out], hw⟩

theorem meet_any (w : World) (l : List SpanV) (A : Option Addr) (n c : Nat) (hn : n = l.length) (hm : n ≤ 4611686018427387904) (hs : Sl w A (sps l)) :
 Calls Tryz.prog 133 #[.slice A n c] w fun e w' => e = .returned (.tuple #[spVal (mtV l).lo (mtV l).hi, .bool (mtB l)]) ∧ Below w.heap.size w w' := by
 have HN := Lib.hid hn
 have HS := Lib.hid hs
 obtain ⟨R, hR⟩ : ∃ R, Value.tuple #[spVal (mtV l).lo (mtV l).hi, .bool (mtB l)] = R := ⟨_, rfl⟩
 rw [hR]
 have HR := Lib.hid hR
 clear hn hs hR
 have O1 := Lib.hid (Ob.fresh w 132 [.int .u64 0, .int .u64 0])
 have B1 := Lib.hid (below_alloc (Below.refl w.heap.size w) (.cells #[.int .u64 0, .int .u64 0] 132))
 have HPS := Lib.hid (Nat.le_refl w.heap.size)
 go_enter Tryz.func133, Tryz.ntmps133
 go_wp2_with fail
 generalize w.alloc (.cells #[.int .u64 0, .int .u64 0] 132) = w1 at O1 B1 ⊢
 refine (full_any w1).mono ?_
 rintro e w2 ⟨rfl, b2⟩
 have O2 := Lib.hid (O1.out.below b2 O1.out.lt)
 have B2 := Lib.hid (B1.out.trans (b2.mono B1.out.size))
 clear b2 O1 B1
 unfold spVal
 have O3 := Lib.hid (O2.out.alloc (.cells #[.int .u64 0, .int .u64 18446744073709551615] 132))
 have Q3 := Lib.hid (Ob.fresh w2 132 [.int .u64 0, .int .u64 18446744073709551615])
 have B3 := Lib.hid (below_alloc B2.out (.cells #[.int .u64 0, .int .u64 18446744073709551615] 132))
 have HQS := Lib.hid B2.out.size
 have hpq : Hid (w.heap.size ≠ w2.heap.size) := Lib.hid (Nat.ne_of_lt O2.out.lt)
 go_wp2_with fail
 generalize w2.alloc (.cells #[.int .u64 0, .int .u64 18446744073709551615] 132) = w3 at O3 Q3 B3 ⊢
 obtain ⟨Q, hQ⟩ : ∃ Q, w2.heap.size = Q := ⟨_, rfl⟩
 rw [hQ] at Q3 HQS hpq ⊢
 obtain ⟨P, hP⟩ : ∃ P, w.heap.size = P := ⟨_, rfl⟩
 rw [hP] at hpq O3 HPS ⊢
 have HPS : Hid (w.heap.size ≤ P) := Lib.hid (Nat.le_of_eq hP)
 clear hP hQ
 go_loopw [10] (fun i wr => ∃ k : Nat, k ≤ n ∧ i = .int .i64 k ∧ Ob wr P 132 [.int .u64 0, .int .u64 0] ∧ Ob wr Q 132 [.int .u64 (loMax (l.take k)), .int .u64 (hiMin (l.take k))] ∧ Below w.heap.size w wr ∧ allR (l.take k) = true) (fun i _ => n - (intOf i).toNat)
 case atStart => exact ⟨0, Nat.zero_le _, rfl, O3.out, Q3.out, B3.out, rfl⟩
 case round =>
  obtain ⟨k, hk, rfl, hop, hoq, hb, hal⟩ := hrel
  have OP := Lib.hid hop
  have OQ := Lib.hid hoq
  have BB := Lib.hid hb
  have HAL := Lib.hid hal
  clear hop hoq hb hal O3 Q3 B3
  by_cases hlt : k < n
  · have g1 : (k : Int) < (n : Int) := by omega
    have hkl : k < l.length := by have := HN.out; omega
    obtain ⟨b, o, rfl, hbl, hcc⟩ := sps_at HS.out (by omega)
    have f0 := (BB.out.cell hbl).trans (hcc k hkl).1
    have f1 := (BB.out.cell hbl).trans (hcc k hkl).2
    have HA2 := Lib.hid (allR_take l k hkl)
    have H1 := Lib.hid (loMax_take l k hkl)
    have H2 := Lib.hid (hiMin_take l k hkl)
    have HCUT := Lib.hid (allR_cut l (k + 1))
    clear hcc hkl
    generalize l.getD k sp0 = s at f0 f1 HA2 H1 H2
    obtain ⟨sl, sh⟩ := s
    dsimp only at f0 f1 HA2 H1 H2
    have QX := Lib.hid (Ob.fresh wr 132 [.int .u64 sl, .int .u64 sh])
    have PX := Lib.hid (OP.out.alloc (.cells #[.int .u64 sl, .int .u64 sh] 132))
    have AX := Lib.hid (OQ.out.alloc (.cells #[.int .u64 sl, .int .u64 sh] 132))
    have BX := Lib.hid (below_alloc BB.out (.cells #[.int .u64 sl, .int .u64 sh] 132))
    go_upto_region 5 with fail
    generalize wr.alloc (.cells #[.int .u64 sl, .int .u64 sh] 132) = wx at QX PX AX BX ⊢
    generalize wr.heap.size = q at QX ⊢
    have c0 := QX.out.c0
    have c1 := QX.out.c1
    clear f0 f1 OP OQ BB
    have HRT := Lib.hid (fun w => right_any w sl sh)
    unfold spVal at HRT
    go_wp2_with fail
    refine (HRT.out wx).mono ?_
    rintro e wy ⟨rfl, by_⟩
    have QY := Lib.hid (QX.out.below by_ QX.out.lt)
    have PY := Lib.hid (PX.out.below by_ PX.out.lt)
    have AY := Lib.hid (AX.out.below by_ AX.out.lt)
    have BY := Lib.hid (BX.out.trans (by_.mono BX.out.size))
    clear by_ c0 c1 QX PX AX BX
    by_cases hr : sl ≤ sh
    · rw [show decide (sl ≤ sh) = true from decide_eq_true hr]
      have HAL2 := Lib.hid (show allR (l.take (k + 1)) = true by rw [HA2.out, HAL.out, decide_eq_true hr]; rfl)
      clear hr
      generalize loMax (l.take k) = x at H1 AY
      generalize hiMin (l.take k) = y at H2 AY
      have c0 := QY.out.c0
      have c1 := QY.out.c1
      have d0 := AY.out.c0
      have d1 := AY.out.c1
      have z0 := AY.out.frozen
      go_wp2_with fail
      go_roundw
      case rel =>
       refine ⟨k + 1, by omega, by go_num, (PY.out.far hpq.out _).far hpq.out _, ?_, (BY.out.setCell HQS.out _).setCell HQS.out _, HAL2.out⟩
       rw [H1.out, H2.out]
       exact (AY.out.set_ 0 _).set_ 1 _
      case measure => simp [intOf]; omega
    rw [show decide (sl ≤ sh) = false from decide_eq_false hr]
    have HAF := Lib.hid (HCUT.out (by rw [HA2.out, decide_eq_false hr, Bool.and_false]))
    have HR2 := Lib.hid (show R = .tuple #[.agg #[.int .u64 0, .int .u64 0], .bool false] by rw [← HR.out]; unfold mtV mtB; rw [if_neg (by rw [HAF.out]; simp), decide_eq_false (by rw [HAF.out]; simp)]; rfl)
    clear hr
    have d0 := PY.out.c0
    have d1 := PY.out.c1
    have z0 := PY.out.frozen
    go_wp2_with fail
    have hw := (BY.out.setCell (p := ⟨P, 0, none⟩) HPS.out (.int .u64 0)).setCell (p := ⟨P, 1, none⟩) HPS.out (.int .u64 0)
    have HOX := Lib.hid ((PY.out.set_ 0 (.int .u64 0)).set_ 1 (.int .u64 0))
    generalize (wy.setCell ⟨P, 0, none⟩ (.int .u64 0)).setCell ⟨P, 1, none⟩ (.int .u64 0) = wf at hw HOX ⊢
    have t0 := HOX.out.c0
    have t1 := HOX.out.c1
    exact bodyPost_ret (v := .tuple #[.agg #[.int .u64 0, .int .u64 0], .bool false]) (by simp [results, Tryz.results133, go_sem, t0, t1]) rfl ⟨by rw [HR2.out], hw⟩
  have g1 : ¬ (k : Int) < (n : Int) := by omega
  have hkn : l.take k = l := List.take_of_length_le (by have := HN.out; omega)
  rw [hkn] at OQ HAL
  clear hkn
  have d0 := OP.out.c0
  have d1 := OP.out.c1
  have z0 := OP.out.frozen
  have a0 := OQ.out.c0
  have a1 := OQ.out.c1
  by_cases hn0 : n = 0
  · have HR2 := Lib.hid (show R = .tuple #[.agg #[.int .u64 0, .int .u64 0], .bool false] by rw [← HR.out]; unfold mtV mtB; rw [if_neg (by rw [← HN.out, hn0]; simp), decide_eq_false (by rw [← HN.out, hn0]; simp)]; rfl)
    subst hn0
    go_wp2_with fail
    have hw := (BB.out.setCell (p := ⟨P, 0, none⟩) HPS.out (.int .u64 0)).setCell (p := ⟨P, 1, none⟩) HPS.out (.int .u64 0)
    have HOX := Lib.hid ((OP.out.set_ 0 (.int .u64 0)).set_ 1 (.int .u64 0))
    generalize (wr.setCell ⟨P, 0, none⟩ (.int .u64 0)).setCell ⟨P, 1, none⟩ (.int .u64 0) = wf at hw HOX ⊢
    have t0 := HOX.out.c0
    have t1 := HOX.out.c1
    exact bodyPost_ret (v := .tuple #[.agg #[.int .u64 0, .int .u64 0], .bool false]) (by simp [results, Tryz.results133, go_sem, t0, t1]) rfl ⟨by rw [HR2.out], hw⟩
  have hn1 : ((n : Int) == 0) = false := by simp; omega
  have HX := Lib.hid (show R = if loMax l ≤ hiMin l then .tuple #[.agg #[.int .u64 (loMax l), .int .u64 (hiMin l)], .bool true] else .tuple #[.agg #[.int .u64 0, .int .u64 0], .bool false] by
   rw [← HR.out]; unfold mtV mtB
   by_cases hx : loMax l ≤ hiMin l
   · rw [if_pos ⟨HAL.out, by rw [← HN.out]; omega, hx⟩, decide_eq_true ⟨HAL.out, by rw [← HN.out]; omega, hx⟩, if_pos hx]; rfl
   rw [if_neg (fun h => hx h.2.2), decide_eq_false (fun h => hx h.2.2), if_neg hx]; rfl)
  generalize loMax l = x at a0 HX OQ
  generalize hiMin l = y at a1 HX OQ
  have HRT := Lib.hid (fun w => right_any w x y)
  unfold spVal at HRT
  go_wp2_with fail
  refine (HRT.out wr).mono ?_
  rintro e wy ⟨rfl, by_⟩
  have PY := Lib.hid (OP.out.below by_ OP.out.lt)
  have AY := Lib.hid (OQ.out.below by_ OQ.out.lt)
  have BY := Lib.hid (BB.out.trans (by_.mono BB.out.size))
  clear by_ d0 d1 z0 a0 a1
  have d0 := PY.out.c0
  have d1 := PY.out.c1
  have z0 := PY.out.frozen
  have a0 := AY.out.c0
  have a1 := AY.out.c1
  by_cases hr : x ≤ y
  · rw [show decide (x ≤ y) = true from decide_eq_true hr]
    have HR2 := Lib.hid (HX.out.trans (if_pos hr))
    clear hr
    go_wp2_with fail
    have hw := (BY.out.setCell (p := ⟨P, 0, none⟩) HPS.out (.int .u64 x)).setCell (p := ⟨P, 1, none⟩) HPS.out (.int .u64 y)
    have HOX := Lib.hid ((PY.out.set_ 0 (.int .u64 x)).set_ 1 (.int .u64 y))
    generalize (wy.setCell ⟨P, 0, none⟩ (.int .u64 x)).setCell ⟨P, 1, none⟩ (.int .u64 y) = wf at hw HOX ⊢
    have t0 := HOX.out.c0
    have t1 := HOX.out.c1
    exact bodyPost_ret (v := .tuple #[.agg #[.int .u64 x, .int .u64 y], .bool true]) (by simp [results, Tryz.results133, go_sem, t0, t1]) rfl ⟨by rw [HR2.out], hw⟩
  rw [show decide (x ≤ y) = false from decide_eq_false hr]
  have HR2 := Lib.hid (HX.out.trans (if_neg hr))
  clear hr
  go_wp2_with fail
  have hw := (BY.out.setCell (p := ⟨P, 0, none⟩) HPS.out (.int .u64 0)).setCell (p := ⟨P, 1, none⟩) HPS.out (.int .u64 0)
  have HOX := Lib.hid ((PY.out.set_ 0 (.int .u64 0)).set_ 1 (.int .u64 0))
  generalize (wy.setCell ⟨P, 0, none⟩ (.int .u64 0)).setCell ⟨P, 1, none⟩ (.int .u64 0) = wf at hw HOX ⊢
  have t0 := HOX.out.c0
  have t1 := HOX.out.c1
  exact bodyPost_ret (v := .tuple #[.agg #[.int .u64 0, .int .u64 0], .bool false]) (by simp [results, Tryz.results133, go_sem, t0, t1]) rfl ⟨by rw [HR2.out], hw⟩

end Go.Proofs.YtikkmkomlajnfaaGreatDoor.Sp
end

section
namespace Go.Proofs.YtikkmkomlajnfaaGreatDoor.Sp
open Go.RowKit


end Go.Proofs.YtikkmkomlajnfaaGreatDoor.Sp
end

section
namespace Go.Proofs.YtikkmkomlajnfaaGreatDoor.Sp
open Go.RowKit

/-- three blocks of two cells each, made one behind the other -/
theorem three (w : World) (a b c d : Int) :
 Ob (((w.alloc (.cells #[.int .u64 a, .int .u64 b] 132)).alloc (.cells #[.int .u64 c, .int .u64 d] 132)).alloc (.cells #[.int .u64 0, .int .u64 0] 132)) w.heap.size 132 [.int .u64 a, .int .u64 b] ∧
 Ob (((w.alloc (.cells #[.int .u64 a, .int .u64 b] 132)).alloc (.cells #[.int .u64 c, .int .u64 d] 132)).alloc (.cells #[.int .u64 0, .int .u64 0] 132)) (w.heap.size + 1) 132 [.int .u64 c, .int .u64 d] ∧
 Ob (((w.alloc (.cells #[.int .u64 a, .int .u64 b] 132)).alloc (.cells #[.int .u64 c, .int .u64 d] 132)).alloc (.cells #[.int .u64 0, .int .u64 0] 132)) (w.heap.size + 2) 132 [.int .u64 0, .int .u64 0] ∧
 Below w.heap.size w (((w.alloc (.cells #[.int .u64 a, .int .u64 b] 132)).alloc (.cells #[.int .u64 c, .int .u64 d] 132)).alloc (.cells #[.int .u64 0, .int .u64 0] 132)) := by
 refine ⟨((Ob.fresh w 132 [.int .u64 a, .int .u64 b]).alloc _).alloc _, ?_, ?_, below_alloc (below_alloc (below_alloc (Below.refl _ _) _) _) _⟩
 · have h := (Ob.fresh (w.alloc (.cells #[.int .u64 a, .int .u64 b] 132)) 132 [.int .u64 c, .int .u64 d]).alloc (.cells #[.int .u64 0, .int .u64 0] 132)
   simpa using h
 have h := Ob.fresh ((w.alloc (.cells #[.int .u64 a, .int .u64 b] 132)).alloc (.cells #[.int .u64 c, .int .u64 d] 132)) 132 [.int .u64 0, .int .u64 0]
 simpa using h
theorem nx3 {w0 w w' : World} {q1 q2 q3 : Nat} {t1 t2 t3 : TypeId} {l1 l2 l3 : List Value} (bx : Below w.heap.size w w') (h1 : Hid (Ob w q1 t1 l1)) (h2 : Hid (Ob w q2 t2 l2)) (h3 : Hid (Ob w q3 t3 l3)) (hb : Hid (Below w0.heap.size w0 w)) :
 Hid (Ob w' q1 t1 l1) ∧ Hid (Ob w' q2 t2 l2) ∧ Hid (Ob w' q3 t3 l3) ∧ Hid (Below w0.heap.size w0 w') :=
 ⟨Lib.hid (h1.out.below bx h1.out.lt), Lib.hid (h2.out.below bx h2.out.lt), Lib.hid (h3.out.below bx h3.out.lt), Lib.hid (hb.out.trans (bx.mono hb.out.size))⟩
theorem fc3 {w : World} {q1 q2 q3 : Nat} {t1 t2 t3 : TypeId} {a b c d e f : Value} {r1 r2 r3 : List Value} (h1 : Hid (Ob w q1 t1 (a :: b :: r1))) (h2 : Hid (Ob w q2 t2 (c :: d :: r2))) (h3 : Hid (Ob w q3 t3 (e :: f :: r3))) :
 w.cell? ⟨q1, 0, none⟩ = some a ∧ w.cell? ⟨q1, 1, none⟩ = some b ∧ w.cell? ⟨q2, 0, none⟩ = some c ∧ w.cell? ⟨q2, 1, none⟩ = some d ∧ w.cell? ⟨q3, 0, none⟩ = some e ∧ w.cell? ⟨q3, 1, none⟩ = some f ∧ ∀ i, w.frozen? ⟨q3, i, none⟩ = false :=
 ⟨h1.out.cell 0, h1.out.cell 1, h2.out.cell 0, h2.out.cell 1, h3.out.cell 0, h3.out.cell 1, h3.out.frozen⟩
theorem thr (w : World) (a b c d : Int) : ∃ w3 q1 q2 q3, ((w.alloc (.cells #[.int .u64 a, .int .u64 b] 132)).alloc (.cells #[.int .u64 c, .int .u64 d] 132)).alloc (.cells #[.int .u64 0, .int .u64 0] 132) = w3 ∧ w.heap.size = q1 ∧ w.heap.size + 1 = q2 ∧ w.heap.size + 2 = q3 ∧
 Hid (Ob w3 q1 132 [.int .u64 a, .int .u64 b]) ∧ Hid (Ob w3 q2 132 [.int .u64 c, .int .u64 d]) ∧ Hid (Ob w3 q3 132 [.int .u64 0, .int .u64 0]) ∧ Hid (Below w.heap.size w w3) ∧ Hid (w.heap.size ≤ q3) ∧ Hid (w.heap.size ≤ q1) ∧ Hid (q2 ≠ q1) ∧ Hid (q1 ≠ q3) ∧ Hid (q2 ≠ q3) :=
 have ⟨o1, o2, o3, b3⟩ := three w a b c d
 ⟨_, _, _, _, rfl, rfl, rfl, rfl, Lib.hid o1, Lib.hid o2, Lib.hid o3, Lib.hid b3, Lib.hid (by omega), Lib.hid (by omega), Lib.hid (by omega), Lib.hid (by omega), Lib.hid (by omega)⟩

end Go.Proofs.YtikkmkomlajnfaaGreatDoor.Sp
end
