/-
  Layer 4: wire.Encode. Conditions: those of each theorem.
-/
import Derived.Test.YtikkmkomlajnfaaGreatDoorWm01
import Derived.Test.YtikkmkomlajnfaaGreatDoorWm28
import Derived.ArgAppend
import Derived.Lib.SlBytesConst
set_option linter.unusedVariables false
set_option linter.unusedSimpArgs false
section
namespace Go.Proofs.YtikkmkomlajnfaaGreatDoor.Wf
set_option maxRecDepth 100000
set_option maxHeartbeats 16000000
open Go.RowKit
open Go.Proofs.YtikkmkomlajnfaaGreatDoor.Op (InstV insc insVal inss ins0 ins_at inss_length rightV right_is RightI Frm insc_one)
open Go.Proofs.YtikkmkomlajnfaaGreatDoor.Jd (ints ints_length int_at goodV good_len meas_lt2)

def mapB (ms : List Int) : List Nat := ms.flatMap fun x => lebN x.toNat
def codeB (l : List InstV) : List Nat := l.flatMap insB
/-- a module's bytes -/
def encB (ms : List Int) (l : List InstV) : List Nat := [84, 80, 1] ++ lebN ms.length ++ mapB ms ++ lebN l.length ++ codeB l
/-- can it be laid? -/
def encV (ms : List Int) (l : List InstV) : Bool := goodV ms && (decide (1 ≤ l.length) && (decide (l.length ≤ 64) && l.all rightV))
theorem insB_put (i : InstV) : insB i = putN [i.op.toNat, i.d.toNat, i.a.toNat, i.b.toNat] ++ lebN (zig i.m) := by simp [insB, putN]
theorem put_one (n : Nat) : putN [n] = lebN n := by simp [putN]
theorem leb_len (n : Nat) : (lebN n).length ≤ 10 := (lebF_len 9 n).2
theorem mapB_len (ms : List Int) : (mapB ms).length ≤ ms.length * 10 := by
 induction ms with
 | nil => exact Nat.le_refl _
 | cons a r ih =>
   have h := leb_len a.toNat
   unfold mapB at ih ⊢
   rw [List.flatMap_cons, List.length_append, List.length_cons]
   omega
theorem insB_len (i : InstV) : (insB i).length ≤ 50 := by
 have h0 := leb_len i.op.toNat
 have h1 := leb_len i.d.toNat
 have h2 := leb_len i.a.toNat
 have h3 := leb_len i.b.toNat
 have h4 := leb_len (zig i.m)
 unfold insB
 simp only [List.length_append]
 omega
theorem codeB_len (l : List InstV) : (codeB l).length ≤ l.length * 50 := by
 induction l with
 | nil => exact Nat.le_refl _
 | cons a r ih =>
   have h := insB_len a
   unfold codeB at ih ⊢
   rw [List.flatMap_cons, List.length_append, List.length_cons]
   omega
theorem mapB_take {ms : List Int} {k : Nat} (h : k < ms.length) : mapB (ms.take (k + 1)) = mapB (ms.take k) ++ lebN (ms.getD k 0).toNat := by
 unfold mapB
 rw [List.take_succ_eq_append_getElem h, List.flatMap_append, List.getD_eq_getElem?_getD, List.getElem?_eq_getElem h]
 simp
theorem codeB_take {l : List InstV} {k : Nat} (h : k < l.length) : codeB (l.take (k + 1)) = codeB (l.take k) ++ insB (l.getD k ins0) := by
 unfold codeB
 rw [List.take_succ_eq_append_getElem h, List.flatMap_append, List.getD_eq_getElem?_getD, List.getElem?_eq_getElem h]
 simp
theorem good_bound {ms : List Int} (h : goodV ms = true) : ∀ k, k < ms.length → 0 ≤ ms.getD k 0 ∧ ms.getD k 0 < 4 := by
 have key : ∀ (f k : Nat), Jd.goodF ms k f = true → ∀ j, k ≤ j → j < k + f → 0 ≤ ms.getD j 0 ∧ ms.getD j 0 < 4 := by
  intro f
  induction f with
  | zero => intro k _ j h1 h2; omega
  | succ f ih =>
    intro k hh j h1 h2
    unfold Jd.goodF at hh
    by_cases c : Jd.badM ms k = true
    · rw [if_pos c] at hh; cases hh
    rw [if_neg c] at hh
    by_cases e : j = k
    · subst e
      unfold Jd.badM at c
      simp only [Bool.or_eq_true, decide_eq_true_eq, not_or] at c
      omega
    exact ih (k + 1) hh j (by omega) (by omega)
 intro k hk
 exact key ms.length 0 h k (Nat.zero_le _) (by omega)

theorem sl_add {w : World} {b o : Nat} {xs : List Value} (h : Sl w (some ⟨b, o, none⟩) xs) : ∀ j u, xs[j]? = some u → w.cell? ((⟨b, o, none⟩ : Addr).add j) = some u := by
 intro j u hu
 have hj : j < xs.length := by
  rcases Nat.lt_or_ge j xs.length with hx | hx
  · exact hx
  rw [List.getElem?_eq_none hx] at hu; cases hu
 obtain ⟨b', o', e, hc⟩ := h (by omega)
 cases e
 have h1 := hc j hj
 rw [List.getD_eq_getElem?_getD, hu] at h1
 rw [show (⟨b, o, none⟩ : Addr).add j = ⟨b, o + j, none⟩ from by unfold Addr.add; split <;> simp_all]
 exact h1
/-- what has been laid so far -/
structure EnS (w0 w : World) (q1 : Nat) (mV cV v : Value) (xs : List Nat) : Prop where
 m : Ob w q1 25 [mV, cV]
 o : w.ownsRow w0.heap.size 5 1 v xs.length (bts xs)
 b : Below w0.heap.size w0 w
theorem own_below {w w' : World} {base : Nat} {e : TypeId} {size : Nat} {v : Value} {n : Nat} {xs : List Value} (h : w.ownsRow base e size v n xs) (hb : Below w.heap.size w w') : w'.ownsRow base e size v n xs :=
 own_tch h (Tch.of_below (S := fun _ => False) hb) fun _ _ => id
theorem EnS.below {w0 w w' : World} {q1 : Nat} {mV cV v : Value} {xs : List Nat} (h : EnS w0 w q1 mV cV v xs) (hb : Below w.heap.size w w') : EnS w0 w' q1 mV cV v xs :=
 ⟨h.m.below hb h.m.lt, own_below h.o hb, h.b.trans (hb.mono h.b.size)⟩
theorem EnS.app {w0 w w' : World} {q1 : Nat} {mV cV v v' : Value} {xs ys : List Nat} {m : Nat} (h : EnS w0 w q1 mV cV v xs) (hm : m = ys.length) (ho : w'.ownsRow w0.heap.size 5 1 v' (xs.length + m) (bts xs ++ bts ys)) (hg : w.grownBy w' v.ownBlock) : EnS w0 w' q1 mV cV v' (xs ++ ys) :=
 ⟨h.m.grown hg (fun e => own_typed h.o h.m (by decide) e.symm), by rw [List.length_append, bts_app, ← hm]; exact ho, h.b.grown hg h.b.size fun b e => (h.o.lt b e).1⟩

theorem Encode_any (w : World) (ms : List Int) (l : List InstV) (mA cA : Option Addr) (nm cm n c : Nat) (hnm : nm = ms.length) (hnc : nm ≤ cm) (hmm : nm ≤ 140737488351232) (hn : n = l.length) (hnl : n ≤ 140737488351232) (him : ∀ i ∈ l, -9223372036854775808 ≤ i.m ∧ i.m ≤ 9223372036854775807) (ht : Frm w) (hms : Sl w mA (ints ms)) (hls : Sl w cA (inss l)) :
 Calls Tryz.prog 7 #[.agg #[.slice mA nm cm, .slice cA n c]] w fun e w' => ((encV ms l = false ∧ e = .returned (.tuple #[.slice none 0 0, .int .i64 2])) ∨ (encV ms l = true ∧ ∃ v, e = .returned (.tuple #[v, .int .i64 0]) ∧ w'.ownsRow w.heap.size 5 1 v (encB ms l).length (bts (encB ms l)))) ∧ Below w.heap.size w w' := by
 have HFO := Lib.hid (fun w hs => formed_any w ms mA nm cm hnm hnc hmm hs)
 have HRI := Lib.hid (fun w ht hs => Right_any w l cA n c hn hnl ht hs)
 have HNM := Lib.hid hnm
 have HN := Lib.hid hn
 have HIM := Lib.hid him
 have HT := Lib.hid ht
 have HMS := Lib.hid hms
 have HLS := Lib.hid hls
 have HGL := Lib.hid (show goodV ms = true → ms.length ≤ 4 from fun h => @good_len ms ms.length 0 h)
 have HGB := Lib.hid (@good_bound ms)
 have HEV := Lib.hid (show encV ms l = (goodV ms && (decide (1 ≤ n) && (decide (n ≤ 64) && l.all rightV))) by rw [hn]; rfl)
 have HRA := Lib.hid (fun (h : l.all rightV = true) => List.all_eq_true.1 h)
 have HMM := Lib.hid hmm
 have HNL := Lib.hid hnl
 have B0 := Lib.hid (Below.refl w.heap.size w)
 obtain ⟨i0, hi0, hz0, hz1, hz2⟩ := info_parts u8_parts
 clear hnm hnc hmm hn hnl him ht hms hls
 go_enter Tryz.func7, Tryz.ntmps7
 go_upto_region 1 with fail
 have O1 := Lib.hid (Ob.fresh w 25 [.slice mA nm cm, .slice cA n c])
 have B1 := Lib.hid (below_alloc (B0.out) (.cells #[.slice mA nm cm, .slice cA n c] 25))
 have Hq1 := Lib.hid (show w.heap.size ≤ w.heap.size by have := B0.out.size; omega)
 clear B0
 generalize (w.alloc (.cells #[.slice mA nm cm, .slice cA n c] 25)) = w1 at O1 B1 ⊢
 obtain ⟨q1, hq1⟩ : ∃ q1, w.heap.size = q1 := ⟨_, rfl⟩
 have Hq1 := Lib.hid (Nat.le_of_eq hq1)
 rw [hq1] at O1 ⊢
 clear hq1
 have f0 := O1.out.c0
 have f1 := O1.out.c1
 obtain ⟨gv, hgv⟩ : ∃ gv, goodV ms = gv := ⟨_, rfl⟩
 obtain ⟨rv, hrv⟩ : ∃ rv, l.all rightV = rv := ⟨_, rfl⟩
 rw [hgv] at HFO HEV HGL HGB
 rw [hrv] at HRI HEV HRA
 clear hgv hrv
 go_wp2_with fail
 refine (HFO.out w1 (HMS.out.below B1.out)).mono ?_
 rintro e w2 ⟨rfl, rfl⟩
 cases gv
 · have HE := Lib.hid (show encV ms l = false from HEV.out)
   go_wp2_with fail
   go_ret2
   exact ⟨.inl ⟨HE.out, rfl⟩, B1.out⟩
 have HNM4 := Lib.hid (show nm ≤ 4 by have := HGL.out rfl; have := HNM.out; omega)
 have HGB2 := Lib.hid (HGB.out rfl)
 clear HGL HGB
 by_cases h1 : n < 1
 · have g1 : (n : Int) < 1 := by omega
   have HE := Lib.hid (show encV ms l = false by rw [HEV.out, decide_eq_false (show ¬ 1 ≤ n by omega)]; rfl)
   go_wp2_with fail
   go_ret2
   exact ⟨.inl ⟨HE.out, rfl⟩, B1.out⟩
 by_cases h2 : 64 < n
 · have g1 : ¬ (n : Int) < 1 := by omega
   have g2 : (64 : Int) < (n : Int) := by omega
   have HE := Lib.hid (show encV ms l = false by rw [HEV.out, decide_eq_false (show ¬ n ≤ 64 by omega), Bool.false_and, Bool.and_false]; rfl)
   go_wp2_with fail
   go_ret2
   exact ⟨.inl ⟨HE.out, rfl⟩, B1.out⟩
 have g1 : ¬ (n : Int) < 1 := by omega
 have g2 : ¬ (64 : Int) < (n : Int) := by omega
 have g1d : decide ((n : Int) < 1) = false := decide_eq_false g1
 have g2d : decide ((64 : Int) < (n : Int)) = false := decide_eq_false g2
 have HEV2 := Lib.hid (show encV ms l = rv by rw [HEV.out, decide_eq_true (show 1 ≤ n by omega), decide_eq_true (show n ≤ 64 by omega)]; rfl)
 go_wp2_with fail
 refine (HRI.out w1 (HT.out.below B1.out) (HLS.out.below B1.out)).mono ?_
 rintro e w2 ⟨rfl, b2⟩
 have B2 := Lib.hid (B1.out.trans (b2.mono B1.out.size))
 have O1b := Lib.hid (O1.out.below b2 O1.out.lt)
 clear b2 f0 f1 O1 B1
 cases rv
 · have HE := Lib.hid HEV2.out
   go_wp2_with fail
   go_ret2
   exact ⟨.inl ⟨HE.out, rfl⟩, B2.out⟩
 have HE := Lib.hid HEV2.out
 have HRA2 := Lib.hid (HRA.out rfl)
 clear HEV HEV2 HFO HRI HRA
 have f0 := O1b.out.c0
 have gw : IntKind.u64.wrap (nm : Int) = (nm : Int) := by have := HNM4.out; simp only [IntKind.wrap_u64]; omega
 have kc := Lib.run_convert_bytes_const (P := Tryz.prog) w2 37 5 #[.int .u8 84, .int .u8 80, .int .u8 1] 3 3 Tryz.underlying37 Tryz.underlying5
 simp only [show (#[Value.int .u8 84, Value.int .u8 80, Value.int .u8 1] : Array Value).size = 3 from rfl] at kc
 have SL3 := Lib.hid (show Sl (w2.alloc (.cells #[.int .u8 84, .int .u8 80, .int .u8 1] 5 (3, 4))) (some ⟨w2.heap.size, 0, none⟩) (bts [84, 80, 1]) from Sl.fresh w2 #[.int .u8 84, .int .u8 80, .int .u8 1] 5 (3, 4))
 have M3 := Lib.hid (O1b.out.alloc (.cells #[.int .u8 84, .int .u8 80, .int .u8 1] 5 (3, 4)))
 have B3 := Lib.hid (below_alloc B2.out (.cells #[.int .u8 84, .int .u8 80, .int .u8 1] 5 (3, 4)))
 have f3 : (w2.alloc (.cells #[.int .u8 84, .int .u8 80, .int .u8 1] 5 (3, 4))).cell? ⟨q1, 0, none⟩ = some (.slice mA nm cm) := M3.out.cell 0
 go_wp2_with fail
 clear f0 kc f3 O1b
 have hz3 : (w2.alloc (.cells #[.int .u8 84, .int .u8 80, .int .u8 1] 5 (3, 4))).heap.size = w2.heap.size + 1 := by simp
 rw [← hz3]
 clear hz3
 generalize w2.alloc (.cells #[.int .u8 84, .int .u8 80, .int .u8 1] 5 (3, 4)) = w3 at SL3 M3 B3 ⊢
 generalize w2.heap.size = g3 at SL3 ⊢
 clear B2
 refine (Put_any _ [nm] _ 1 1 rfl (by decide) (fun x hx => by rw [List.mem_singleton] at hx; have := HNM4.out; omega) (Sl.fresh w3 #[.int .u64 nm] 26 (0, 0))).mono ?_
 rintro e w4 ⟨v4, rfl, own4, b4⟩
 rw [put_one] at own4
 have hL1 := (lebF_len 9 nm).1
 rw [show lebF 9 nm = lebN nm from rfl] at hL1
 have hL2 := leb_len nm
 have HENC := Lib.hid (show encB ms l = [84, 80, 1] ++ lebN nm ++ mapB ms ++ lebN n ++ codeB l by rw [HNM.out, HN.out]; rfl)
 generalize lebN nm = L at own4 hL1 hL2 HENC
 have HL := Lib.hid (And.intro hL1 hL2)
 clear hL1 hL2
 obtain ⟨g4, c4, rest4, rfl, -, -, -, -, -, -⟩ := own_ob own4 HL.out.1
 have SL4 := Lib.hid (own_sl own4)
 have SL3b := Lib.hid ((SL3.out.alloc _).below b4)
 have M4 := Lib.hid ((M3.out.alloc _).below b4 (M3.out.alloc _).lt)
 have B4 := Lib.hid ((below_alloc B3.out _).trans (b4.mono (below_alloc B3.out _).size))
 clear own4 b4 SL3 M3 B3
 have f4 := M4.out.c0
 go_upto_region 4 with
  (at_builtin
   refine wpList_append_grows _ rfl (.tmp 32) (.tmp 38) _ rfl 5 i0 _ 1 1 Tryz.underlying37 hi0 hz0 hz1 hz2 rfl (by omega) (some ⟨g3, 0, none⟩) 3 3 (bts [84, 80, 1]) rfl (fun h => by cases h) rfl (fun b hb => by cases hb; exact sl_add SL3b.out) ⟨g4, 0, none⟩ L.length c4 (bts L) rfl (by rw [bts_length, Nat.mul_one]) (sl_add SL4.out) (bts_one _) (by have := HL.out.1; omega) (by have := HL.out.2; simp only [maxLen]; omega) (by have := HL.out.2; omega) ?_
   intro v5 w5 hown hgr
   have E5 := Lib.hid (show EnS w w5 q1 (.slice mA nm cm) (.slice cA n c) v5 ([84, 80, 1] ++ L) from ⟨M4.out.grown hgr (fun e => by cases e), by rw [List.length_append, bts_app]; exact own_base hown B4.out.size, B4.out.grown hgr B4.out.size fun b e => by cases e⟩)
   clear hown hgr)
 clear f4 SL4 SL3b M4 B4
 have HX0 := Lib.hid (show ([84, 80, 1] ++ L).length ≤ 13 by have := HL.out.2; rw [List.length_append]; show 3 + L.length ≤ 13; omega)
 generalize [84, 80, 1] ++ L = X0 at E5 HX0 HENC
 clear HL gw
 have f5 : w5.cell? ⟨q1, 0, none⟩ = some (.slice mA nm cm) := E5.out.m.cell 0
 go_wp2_with fail
 clear f5
 go_loopw [4, 43] (fun u i wr => ∃ k : Nat, k ≤ nm ∧ i = .int .i64 k ∧ EnS w wr q1 (.slice mA nm cm) (.slice cA n c) u (X0 ++ mapB (ms.take k))) (fun _ i _ => nm - (intOf i).toNat)
 case atStart => exact ⟨0, Nat.zero_le _, rfl, by rw [List.take_zero]; unfold mapB; rw [List.flatMap_nil, List.append_nil]; exact E5.out⟩
 case round =>
  obtain ⟨k, hk, rfl, hes⟩ := hrel
  have ES := Lib.hid hes
  clear hes E5
  by_cases hlt : k < nm
  · have l1 : (k : Int) < (nm : Int) := by omega
    have l0 : (0 : Int) ≤ (k : Int) := by omega
    have g4 : wrap64 ((k : Int) + 1) = (k : Int) + 1 := by have := HNM4.out; unfold wrap64; omega
    have hkl : k < ms.length := HNM.out ▸ hlt
    obtain ⟨b, o, rfl, hc⟩ := int_at (HMS.out.below ES.out.b) (by omega)
    have c0 := hc k hkl
    obtain ⟨hb0, hb1⟩ := HGB2.out k hkl
    have HTK := Lib.hid (mapB_take hkl)
    have HLX := Lib.hid (show (X0 ++ mapB (ms.take k)).length ≤ 60 by
     have h1 := mapB_len (ms.take k)
     have h2 : (ms.take k).length ≤ 4 := by rw [List.length_take]; have := HNM4.out; omega
     have := HX0.out
     rw [List.length_append]
     omega)
    clear hc hkl
    generalize ms.getD k 0 = z at c0 hb0 hb1 HTK
    obtain ⟨x, rfl⟩ : ∃ x : Nat, z = x := ⟨z.toNat, by omega⟩
    rw [Int.toNat_natCast] at HTK
    have gx : IntKind.u64.wrap (x : Int) = (x : Int) := by simp only [IntKind.wrap_u64]; omega
    go_wp2_with fail
    clear c0
    refine (Put_any _ [x] _ 1 1 rfl (by decide) (fun y hy => by rw [List.mem_singleton] at hy; omega) (Sl.fresh wr #[.int .u64 x] 26 (0, 0))).mono ?_
    rintro e w6 ⟨v6, rfl, own6, b6⟩
    rw [put_one] at own6
    have HL2 := Lib.hid (leb_len x)
    generalize lebN x = Y at own6 HL2 HTK
    obtain ⟨A6, c6, rfl, _, _, sl6, _⟩ := own_form own6
    have SL6 := Lib.hid sl6
    have E6 := Lib.hid ((ES.out.below (below_alloc (Below.refl _ _) _)).below b6)
    clear own6 b6 sl6 ES
    go_wp2_with
     (at_builtin
      refine wpList_append_sl _ rfl (.tmp 47) (.tmp 51) _ rfl w.heap.size 5 i0 _ 1 1 Tryz.underlying37 hi0 hz0 hz1 hz2 rfl (by omega) _ _ _ rfl E6.out.o
       A6 (Y).length c6 (bts (Y)) rfl (by rw [bts_length, Nat.mul_one]) SL6.out (bts_one _) (by simp only [maxLen]; have h1 := HLX.out; have h2 := HL2.out; omega) (by have h1 := HLX.out; have h2 := HL2.out; omega) E6.out.b.size ?_
      intro v7 w7 hown hgr _
      have E7 := Lib.hid (E6.out.app rfl hown hgr)
      clear hown hgr)
    exact ⟨⟨k + 1, by omega, by first | exact congrArg (Value.int .i64) (g4.trans (by push_cast; rfl)) | go_num, by rw [HTK.out, ← List.append_assoc]; exact E7.out⟩, by first | exact meas_lt2 hlt | (rw [g4]; exact meas_lt2 hlt) | (simp [intOf]; omega)⟩
  obtain rfl : nm = k := by omega
  have l1 : ¬ (nm : Int) < (nm : Int) := by omega
  rw [show ms.take nm = ms from List.take_of_length_le (by have := HNM.out; omega)] at ES
  clear HGB2 HMM hk HMS
  have HN64 := Lib.hid (show n ≤ 64 by omega)
  have gw : IntKind.u64.wrap (n : Int) = (n : Int) := by simp only [IntKind.wrap_u64]; omega
  have HXM := Lib.hid (show (X0 ++ mapB ms).length ≤ 53 by
   have h1 := mapB_len ms
   have h2 := HX0.out
   have h3 := HNM4.out
   have h4 := HNM.out
   rw [List.length_append]
   omega)
  generalize X0 ++ mapB ms = X1 at ES HENC HXM
  have f1 : wr.cell? ⟨q1, 1, none⟩ = some (.slice cA n c) := ES.out.m.cell 1
  go_wp2_with fail
  clear f1 gw
  refine (Put_any _ [n] _ 1 1 rfl (by decide) (fun y hy => by rw [List.mem_singleton] at hy; have := HN64.out; omega) (Sl.fresh wr #[.int .u64 n] 26 (0, 0))).mono ?_
  rintro e w6 ⟨v6, rfl, own6, b6⟩
  rw [put_one] at own6
  have HL2 := Lib.hid (leb_len n)
  generalize lebN n = Y at own6 HL2 HENC
  obtain ⟨A6, c6, rfl, _, _, sl6, _⟩ := own_form own6
  have SL6 := Lib.hid sl6
  have E6 := Lib.hid ((ES.out.below (below_alloc (Below.refl _ _) _)).below b6)
  have f6 : w6.cell? ⟨q1, 1, none⟩ = some (.slice cA n c) := E6.out.m.cell 1
  clear own6 b6 sl6 ES
  go_upto_region 10 with
   (at_builtin
    refine wpList_append_sl _ rfl (.tmp 54) (.tmp 60) _ rfl w.heap.size 5 i0 _ 1 1 Tryz.underlying37 hi0 hz0 hz1 hz2 rfl (by omega) _ _ _ rfl E6.out.o
     A6 (Y).length c6 (bts (Y)) rfl (by rw [bts_length, Nat.mul_one]) SL6.out (bts_one _) (by simp only [maxLen]; have h1 := HXM.out; have h2 := HL2.out; omega) (by have h1 := HXM.out; have h2 := HL2.out; omega) E6.out.b.size ?_
    intro v7 w7 hown hgr _
    have E7 := Lib.hid (E6.out.app rfl hown hgr)
    clear hown hgr)
  clear f6 E6 SL6
  have HX2 := Lib.hid (show (X1 ++ Y).length ≤ 63 by
   have h1 := HXM.out
   have h2 := HL2.out
   rw [List.length_append]
   omega)
  generalize X1 ++ Y = X2 at E7 HX2 HENC
  clear HL2 HXM HX0
  have f1 : w7.cell? ⟨q1, 1, none⟩ = some (.slice cA n c) := E7.out.m.cell 1
  go_wp2_with fail
  clear f1
  go_loopw [4, 65] (fun u i wr => ∃ k : Nat, k ≤ n ∧ i = .int .i64 k ∧ EnS w wr q1 (.slice mA nm cm) (.slice cA n c) u (X2 ++ codeB (l.take k))) (fun _ i _ => n - (intOf i).toNat)
  case atStart => exact ⟨0, Nat.zero_le _, rfl, by rw [List.take_zero]; unfold codeB; rw [List.flatMap_nil, List.append_nil]; exact E7.out⟩
  case round =>
   clear E7
   obtain ⟨k, hk, rfl, hes⟩ := hrel
   have ES := Lib.hid hes
   clear hes
   by_cases hlt : k < n
   · have l2 : (k : Int) < (n : Int) := by omega
     have l0 : (0 : Int) ≤ (k : Int) := by omega
     have g4 : wrap64 ((k : Int) + 1) = (k : Int) + 1 := by have := HN64.out; unfold wrap64; omega
     have hkl : k < l.length := HN.out ▸ hlt
     obtain ⟨b, o, rfl, hbl, hc⟩ := ins_at (HLS.out.below ES.out.b) (Nat.lt_of_le_of_lt (Nat.zero_le _) hkl)
     obtain ⟨c0, c1, c2, c3, c4⟩ := hc k hkl
     have hmem : l.getD k ins0 ∈ l := by rw [List.getD_eq_getElem?_getD, List.getElem?_eq_getElem hkl]; exact List.getElem_mem hkl
     have hri := right_is (HRA2.out _ hmem)
     have HIMX := Lib.hid (HIM.out _ hmem)
     have HTK := Lib.hid (codeB_take hkl)
     have HLX := Lib.hid (show (X2 ++ codeB (l.take k)).length ≤ 3300 by
      have h1 := codeB_len (l.take k)
      have h2 : (l.take k).length ≤ 64 := by rw [List.length_take]; have := HN64.out; omega
      have := HX2.out
      rw [List.length_append]
      omega)
     clear hc hkl hmem hbl
     rw [insB_put] at HTK
     generalize l.getD k ins0 = ii at c0 c1 c2 c3 c4 hri HTK HIMX
     obtain ⟨op, d, a, s, m⟩ := ii
     obtain ⟨r0, r1, r2, r3, r4, r5, r6, _, _, _, _, _⟩ := hri
     dsimp only at c0 c1 c2 c3 c4 r0 r1 r2 r3 r4 r5 r6 HTK HIMX
     obtain ⟨x0, rfl⟩ : ∃ x : Nat, op = x := ⟨op.toNat, by omega⟩
     obtain ⟨x1, rfl⟩ : ∃ x : Nat, d = x := ⟨d.toNat, by omega⟩
     obtain ⟨x2, rfl⟩ : ∃ x : Nat, a = x := ⟨a.toNat, by omega⟩
     obtain ⟨x3, rfl⟩ : ∃ x : Nat, s = x := ⟨s.toNat, by omega⟩
     have gx0 : IntKind.u64.wrap (x0 : Int) = (x0 : Int) := by simp only [IntKind.wrap_u64]; omega
     have gx1 : IntKind.u64.wrap (x1 : Int) = (x1 : Int) := by simp only [IntKind.wrap_u64]; omega
     have gx2 : IntKind.u64.wrap (x2 : Int) = (x2 : Int) := by simp only [IntKind.wrap_u64]; omega
     have gx3 : IntKind.u64.wrap (x3 : Int) = (x3 : Int) := by simp only [IntKind.wrap_u64]; omega
     have HXS := Lib.hid (show x0 < 100 ∧ x1 < 100 ∧ x2 < 100 ∧ x3 < 100 by omega)
     simp only [Int.toNat_natCast] at HTK
     clear r0 r1 r2 r3 r4 r5 r6
     go_upto_region 13 with fail
     clear c0 c1 c2 c3 c4
     have O8 := Lib.hid (Ob.fresh wr 59 [.int .i64 x0, .int .i64 x1, .int .i64 x2, .int .i64 x3, .int .i64 m])
     have E8 := Lib.hid (ES.out.below (below_alloc (Below.refl _ _) (.cells #[.int .i64 x0, .int .i64 x1, .int .i64 x2, .int .i64 x3, .int .i64 m] 59)))
     clear ES
     generalize wr.alloc (.cells #[.int .i64 x0, .int .i64 x1, .int .i64 x2, .int .i64 x3, .int .i64 m] 59) = w8 at O8 E8 ⊢
     generalize wr.heap.size = q8 at O8 ⊢
     have i0_ := O8.out.c0
     have i1_ := O8.out.c1
     have i2_ := O8.out.c2
     have i3_ := O8.out.c3
     go_wp2_with fail
     clear i0_ i1_ i2_ i3_ gx0 gx1 gx2 gx3
     refine (Put_any _ [x0, x1, x2, x3] _ 4 4 rfl (by decide) (fun y hy => by
      have := HXS.out
      simp only [List.mem_cons, List.mem_nil_iff, or_false] at hy
      omega) (Sl.fresh w8 #[.int .u64 x0, .int .u64 x1, .int .u64 x2, .int .u64 x3] 26 (0, 0))).mono ?_
     rintro e w9 ⟨v9, rfl, own9, b9⟩
     have HP2 := Lib.hid (show (putN [x0, x1, x2, x3]).length ≤ 40 from put_len _)
     generalize putN [x0, x1, x2, x3] = Z at own9 HP2 HTK
     obtain ⟨A9, c9, rfl, _, _, sl9, _⟩ := own_form own9
     have SL9 := Lib.hid sl9
     have E9 := Lib.hid ((E8.out.below (below_alloc (Below.refl _ _) _)).below b9)
     have O9 := Lib.hid ((O8.out.alloc _).below b9 (O8.out.alloc _).lt)
     clear own9 b9 sl9 E8 O8 HXS
     go_upto_region 14 with
      (at_builtin
       refine wpList_append_sl _ rfl (.tmp 69) (.tmp 83) _ rfl w.heap.size 5 i0 _ 1 1 Tryz.underlying37 hi0 hz0 hz1 hz2 rfl (by omega) _ _ _ rfl E9.out.o
        A9 (Z).length c9 (bts (Z)) rfl (by rw [bts_length, Nat.mul_one]) SL9.out (bts_one _) (by simp only [maxLen]; have h1 := HLX.out; have h2 := HP2.out; omega) (by have h1 := HLX.out; have h2 := HP2.out; omega) E9.out.b.size ?_
       intro vA wA hown hgr _
       have EA := Lib.hid (E9.out.app rfl hown hgr)
       have OA := Lib.hid (O9.out.grown hgr fun e => own_typed E9.out.o O9.out (by decide) e.symm)
       clear hown hgr)
     clear E9 SL9 O9
     have j4 := OA.out.c4
     go_wp2_with fail
     clear j4
     have HFR := Lib.hid (Ob.fresh wA 2 [.int .i64 m])
     refine (PutInt_any _ m _ _ 1 HIMX.out.1 HIMX.out.2 (HFR.out.cell 0)).mono ?_
     rintro e wB ⟨vB, rfl, ownB, bB⟩
     have HPB := Lib.hid (leb_len (zig m))
     generalize lebN (zig m) = Z2 at ownB HPB HTK
     obtain ⟨AB, cB, rfl, _, _, slB, _⟩ := own_form ownB
     have SLB := Lib.hid slB
     have EB := Lib.hid ((EA.out.below (below_alloc (Below.refl _ _) _)).below bB)
     clear ownB bB slB EA HFR OA
     go_wp2_with
      (at_builtin
       refine wpList_append_sl _ rfl (.tmp 85) (.tmp 89) _ rfl w.heap.size 5 i0 _ 1 1 Tryz.underlying37 hi0 hz0 hz1 hz2 rfl (by omega) _ _ _ rfl EB.out.o
        AB (Z2).length cB (bts (Z2)) rfl (by rw [bts_length, Nat.mul_one]) SLB.out (bts_one _) (by simp only [maxLen]; rw [List.length_append]; have h1 := HLX.out; have h2 := HP2.out; have h3 := HPB.out; omega) (by rw [List.length_append]; have h1 := HLX.out; have h2 := HP2.out; have h3 := HPB.out; omega) EB.out.b.size ?_
       intro vC wC hown hgr _
       have EC := Lib.hid (EB.out.app rfl hown hgr)
       clear hown hgr)
     exact ⟨⟨k + 1, by omega, by first | exact congrArg (Value.int .i64) (g4.trans (by push_cast; rfl)) | go_num, by rw [HTK.out, ← List.append_assoc, ← List.append_assoc]; exact EC.out⟩, by first | exact meas_lt2 hlt | (rw [g4]; exact meas_lt2 hlt) | (simp [intOf]; omega)⟩
   obtain rfl : n = k := by omega
   have l2 : ¬ (n : Int) < (n : Int) := by omega
   rw [show l.take n = l from List.take_of_length_le (by have := HN.out; omega), ← HENC.out] at ES
   go_wp2_with fail
   go_ret2
   exact ⟨.inr ⟨HE.out, _, rfl, ES.out.o⟩, ES.out.b⟩
end Go.Proofs.YtikkmkomlajnfaaGreatDoor.Wf
end
