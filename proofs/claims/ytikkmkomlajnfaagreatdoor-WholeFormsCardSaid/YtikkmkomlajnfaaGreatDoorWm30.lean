/-
  Layer 4: wire.Decode on a module's bytes. Conditions: those of each theorem.
  Layer 4: wire.Same of two modules that are the same. Conditions: those of each theorem.
-/
import Derived.Test.YtikkmkomlajnfaaGreatDoorWm01
import Derived.Test.YtikkmkomlajnfaaGreatDoorWm29
import Derived.Test.YtikkmkomlajnfaaGreatDoorWm11
import Derived.BigQuiet
set_option linter.unusedVariables false
set_option linter.unusedSimpArgs false
section
namespace Go.Proofs.YtikkmkomlajnfaaGreatDoor.Wf
set_option maxRecDepth 100000
set_option maxHeartbeats 16000000
open Go.RowKit
open Go.Proofs.YtikkmkomlajnfaaGreatDoor.Op (InstV insc insVal inss ins0 ins_at inss_length inss_allone rightV right_is RightI Frm insc_one)
open Go.Proofs.YtikkmkomlajnfaaGreatDoor.Jd (ints ints_length int_at goodV good_len meas_lt2 contains_any badM)
open Go.Proofs.YtikkmkomlajnfaaGreatDoor.En (int_info inst_info)

theorem own_only {w w' : World} {base size n g : Nat} {e T : TypeId} {v : Value} {xs cs : List Value} (h : w.ownsRow base e size v n xs) (k : Only w w' g) (ho : Ob w g T cs) (hT : e ≠ T) : w'.ownsRow base e size v n xs :=
 own_tch h (Tch.of_only k) fun i hi e' => own_typed h ho hT (by rw [hi, e'])
theorem own_grown {w w' : World} {base base' size size' n n' : Nat} {e e' : TypeId} {v v' : Value} {xs xs' : List Value} (h : w.ownsRow base e size v n xs) (h' : w.ownsRow base' e' size' v' n' xs') (k : w.grownBy w' v'.ownBlock) (hT : e ≠ e') : w'.ownsRow base e size v n xs :=
 own_tch h (Tch.of_grown k) fun i hi e1 => own_apart h h' hT i hi e1
theorem Only.grown {w0 w w' : World} {g : Nat} {row : Option Nat} (h : Only w0 w g) (k : w.grownBy w' row) (hr : ∀ i, row = some i → w0.heap.size ≤ i) : Only w0 w' g :=
 ⟨k.os.trans h.os, k.tape.trans h.tape, k.output.trans h.output, Nat.le_trans h.size k.size, fun i hi hn => (k.block i (Nat.lt_of_lt_of_le hi h.size) (fun e => by have := hr i e.symm; omega)).trans (h.block i hi hn)⟩
theorem mod_ne : (79 : TypeId) ≠ 25 ∧ (3 : TypeId) ≠ 25 ∧ (59 : TypeId) ≠ 25 ∧ (3 : TypeId) ≠ 79 ∧ (59 : TypeId) ≠ 79 ∧ (3 : TypeId) ≠ 59 := by decide

/-- the reader, the result's place and the module that is read -/
structure DeS (w0 w : World) (g b o n c p f : Nat) (L : List Nat) (q2 q6 k j : Nat) (mA : Option Addr) (mc : Nat) (cA : Option Addr) (cc : Nat) (ms : List Int) (l : List InstV) : Prop where
 R : RdS w0 w g b o n c p f L
 o2 : Ob w q2 25 [.slice none 0 0, .slice none 0 0]
 o6 : Ob w q6 25 [.slice mA k mc, .slice cA j cc]
 mo : w.ownsRow w0.heap.size 3 1 (.slice mA k mc) k (ints (ms.take k))
 co : w.ownsRow w0.heap.size 59 5 (.slice cA j cc) j (inss (l.take j))
 l2 : w0.heap.size ≤ q2
 l6 : w0.heap.size ≤ q6
 n26 : q2 ≠ q6
 gl : w0.heap.size ≤ g
 bl : b < w0.heap.size
section
variable {w0 w w' : World} {g b o n c p f p' f' q2 q6 k j mc cc : Nat} {L : List Nat} {mA cA : Option Addr} {ms : List Int} {l : List InstV}
theorem DeS.num (h : DeS w0 w g b o n c p f L q2 q6 k j mA mc cA cc ms l) (k' : RdS w w' g b o n c p' f' L) : DeS w0 w' g b o n c p' f' L q2 q6 k j mA mc cA cc ms l :=
 ⟨h.R.trans k', h.o2.only k'.k (h.R.r.ne_ h.o2 mod_ne.1).symm, h.o6.only k'.k (h.R.r.ne_ h.o6 mod_ne.1).symm, own_only h.mo k'.k h.R.r mod_ne.2.2.2.1, own_only h.co k'.k h.R.r mod_ne.2.2.2.2.1, h.l2, h.l6, h.n26, h.gl, h.bl⟩
theorem DeS.below (h : DeS w0 w g b o n c p f L q2 q6 k j mA mc cA cc ms l) (hb : Below w.heap.size w w') : DeS w0 w' g b o n c p f L q2 q6 k j mA mc cA cc ms l := h.num (h.R.refl.below hb)
theorem DeS.drew (h : DeS w0 w g b o n c p f L q2 q6 k j mA mc cA cc ms l) : DeS w0 w.drew g b o n c p f L q2 q6 k j mA mc cA cc ms l := h.below (below_drewN (Below.refl _ _) 1)
theorem DeS.bw (h : DeS w0 w g b o n c p f L q2 q6 k j mA mc cA cc ms l) : Below w0.heap.size w0 w := ⟨h.R.k.os, h.R.k.tape, h.R.k.output, h.R.k.size, fun i hi => h.R.k.block i hi (fun e => by have := h.gl; injection e with e; omega)⟩
theorem rds_grown {row : Option Nat} (h : RdS w0 w g b o n c p f L) (k : w.grownBy w' row) (hg : row ≠ some g) (hb : row ≠ some b) (hr : ∀ i, row = some i → w0.heap.size ≤ i) : RdS w0 w' g b o n c p f L :=
 ⟨h.r.grown k (Ne.symm hg), En.sl_tch h.s (Tch.of_grown k) (fun a e e1 => by cases e; exact hb e1), Only.grown h.k k hr, h.ne⟩
/-- maps have got one more: the new row, and the cell that holds it -/
theorem DeS.maps (h : DeS w0 w g b o n c p f L q2 q6 k j mA mc cA cc ms l) {mA' : Option Addr} {mc' : Nat} {x : Int} (ho : w'.ownsRow w0.heap.size 3 1 (.slice mA' (k + 1) mc') (k + 1) (ints (ms.take k) ++ ints [x])) (hk : w.grownBy w' (Value.slice mA k mc).ownBlock) (hx : ms.take (k + 1) = ms.take k ++ [x]) :
 DeS w0 (w'.setCell ⟨q6, 0, none⟩ (.slice mA' (k + 1) mc')) g b o n c p f L q2 q6 (k + 1) j mA' mc' cA cc ms l := by
 have hrow : ∀ i, (Value.slice mA k mc).ownBlock = some i → w0.heap.size ≤ i := fun i e => (h.mo.lt i e).1
 have R' := rds_grown h.R hk (own_typed h.mo h.R.r mod_ne.2.2.2.1) (fun e => by have := hrow b e; have := h.bl; omega) hrow
 have o2' := h.o2.grown hk (fun e => own_typed h.mo h.o2 mod_ne.2.1 e.symm)
 have o6' := h.o6.grown hk (fun e => own_typed h.mo h.o6 mod_ne.2.1 e.symm)
 have co' := own_grown h.co h.mo hk mod_ne.2.2.2.2.2.symm
 exact ⟨R'.far (q := ⟨q6, 0, none⟩) h.l6 (R'.r.ne_ o6' mod_ne.1).symm (by have := h.bl; have := h.l6; dsimp only; omega) _, o2'.far (p := ⟨q6, 0, none⟩) h.n26 _, o6'.set_ 0 _,
  ownsRow_setCell_other (by rw [hx, show ints (ms.take k ++ [x]) = ints (ms.take k) ++ ints [x] from List.map_append]; exact ho) (own_typed ho o6' mod_ne.2.1) _,
  ownsRow_setCell_other co' (own_typed co' o6' mod_ne.2.2.1) _, h.l2, h.l6, h.n26, h.gl, h.bl⟩
/-- the code has got one more -/
theorem DeS.code (h : DeS w0 w g b o n c p f L q2 q6 k j mA mc cA cc ms l) {cA' : Option Addr} {cc' : Nat} {x : InstV} (ho : w'.ownsRow w0.heap.size 59 5 (.slice cA' (j + 1) cc') (j + 1) (inss (l.take j) ++ insc x)) (hk : w.grownBy w' (Value.slice cA j cc).ownBlock) (hx : l.take (j + 1) = l.take j ++ [x]) :
 DeS w0 (w'.setCell ⟨q6, 1, none⟩ (.slice cA' (j + 1) cc')) g b o n c p f L q2 q6 k (j + 1) mA mc cA' cc' ms l := by
 have hrow : ∀ i, (Value.slice cA j cc).ownBlock = some i → w0.heap.size ≤ i := fun i e => (h.co.lt i e).1
 have R' := rds_grown h.R hk (own_typed h.co h.R.r mod_ne.2.2.2.2.1) (fun e => by have := hrow b e; have := h.bl; omega) hrow
 have o2' := h.o2.grown hk (fun e => own_typed h.co h.o2 mod_ne.2.2.1 e.symm)
 have o6' := h.o6.grown hk (fun e => own_typed h.co h.o6 mod_ne.2.2.1 e.symm)
 have mo' := own_grown h.mo h.co hk mod_ne.2.2.2.2.2
 exact ⟨R'.far (q := ⟨q6, 1, none⟩) h.l6 (R'.r.ne_ o6' mod_ne.1).symm (by have := h.bl; have := h.l6; dsimp only; omega) _, o2'.far (p := ⟨q6, 1, none⟩) h.n26 _, o6'.set_ 1 _,
  ownsRow_setCell_other mo' (own_typed mo' o6' mod_ne.2.1) _,
  ownsRow_setCell_other (by rw [hx, show inss (l.take j ++ [x]) = inss (l.take j) ++ insc x from by simp [inss]]; exact ho) (own_typed ho o6' mod_ne.2.2.1) _, h.l2, h.l6, h.n26, h.gl, h.bl⟩
end

theorem good_new {ms : List Int} (h : goodV ms = true) : ∀ k, k < ms.length → ¬ ms.getD k 0 ∈ ms.take k := by
 have key : ∀ (f k : Nat), Jd.goodF ms k f = true → ∀ j, k ≤ j → j < k + f → ¬ ms.getD j 0 ∈ ms.take j := by
  intro f
  induction f with
  | zero => intro k _ j h1 h2; omega
  | succ f ih =>
    intro k hh j h1 h2
    unfold Jd.goodF at hh
    by_cases c : badM ms k = true
    · rw [if_pos c] at hh; cases hh
    rw [if_neg c] at hh
    by_cases e : j = k
    · subst e
      unfold Jd.badM at c
      simp only [Bool.or_eq_true, decide_eq_true_eq, not_or] at c
      exact c.2
    exact ih (k + 1) hh j (by omega) (by omega)
 intro k hk
 exact key ms.length 0 h k (Nat.zero_le _) (by omega)
theorem mapB_drop {ms : List Int} {k : Nat} (h : k < ms.length) : mapB (ms.drop k) = lebN (ms.getD k 0).toNat ++ mapB (ms.drop (k + 1)) := by
 rw [List.drop_eq_getElem_cons h, List.getD_eq_getElem?_getD, List.getElem?_eq_getElem h]; rfl
theorem codeB_drop {l : List InstV} {k : Nat} (h : k < l.length) : codeB (l.drop k) = insB (l.getD k ins0) ++ codeB (l.drop (k + 1)) := by
 rw [List.drop_eq_getElem_cons h, List.getD_eq_getElem?_getD, List.getElem?_eq_getElem h]; rfl
theorem take_next {α : Type} (d : α) {l : List α} {k : Nat} (h : k < l.length) : l.take (k + 1) = l.take k ++ [l.getD k d] := by
 rw [List.take_succ_eq_append_getElem h, List.getD_eq_getElem?_getD, List.getElem?_eq_getElem h]; rfl
theorem encV_all {ms : List Int} {l : List InstV} (h : encV ms l = true) : goodV ms = true ∧ 1 ≤ l.length ∧ l.length ≤ 64 ∧ ∀ i ∈ l, rightV i = true := by
 unfold encV at h
 simp only [Bool.and_eq_true, decide_eq_true_eq] at h
 exact ⟨h.1, h.2.1, h.2.2.1, List.all_eq_true.1 h.2.2.2⟩

theorem Decode_any (w : World) (b o n c : Nat) (ms : List Int) (l : List InstV) (hv : encV ms l = true) (him : ∀ i ∈ l, -9223372036854775808 ≤ i.m ∧ i.m ≤ 9223372036854775807) (hn : n = (encB ms l).length) (hnc : n ≤ c) (ht : Frm w) (hs : Sl w (some ⟨b, o, none⟩) (bts (encB ms l))) :
 Calls Tryz.prog 9 #[.slice (some ⟨b, o, none⟩) n c] w fun e w' => ∃ mA mc cA cc, e = .returned (.tuple #[.agg #[.slice mA ms.length mc, .slice cA l.length cc], .int .i64 0, .int .i64 0]) ∧ w'.ownsRow w.heap.size 3 1 (.slice mA ms.length mc) ms.length (ints ms) ∧ w'.ownsRow w.heap.size 59 5 (.slice cA l.length cc) l.length (inss l) ∧ Below w.heap.size w w' := by
 obtain ⟨hg, hl1, hl64, hr⟩ := encV_all hv
 have HGB := Lib.hid (good_bound hg)
 have HGN := Lib.hid (good_new hg)
 have HM4 := Lib.hid (show ms.length ≤ 4 from @good_len ms ms.length 0 hg)
 have HL1 := Lib.hid hl1
 have HL64 := Lib.hid hl64
 have HR := Lib.hid hr
 have HIM := Lib.hid him
 have HT := Lib.hid ht
 have HGL := Lib.hid ht.lt
 have HN := Lib.hid hn
 have HNC := Lib.hid hnc
 have HS := Lib.hid hs
 have HB := Lib.hid (show n ≤ 1000000 by
  have h1 := leb_len ms.length
  have h2 := leb_len l.length
  have h3 := mapB_len ms
  have h4 := codeB_len l
  have h5 := HM4.out
  rw [hn]
  unfold encB
  simp only [List.length_append, List.length_cons, List.length_nil]
  omega)
 have HE0 := Lib.hid (show encB ms l = 84 :: 80 :: 1 :: (lebN ms.length ++ (mapB ms ++ (lebN l.length ++ codeB l))) by unfold encB; simp)
 have HE3 := Lib.hid (show (encB ms l).drop 3 = lebN ms.length ++ (mapB (ms.drop 0) ++ (lebN l.length ++ codeB (l.drop 0))) by rw [HE0.out]; rfl)
 clear hg hl1 hl64 hr hv him ht hn hnc hs
 generalize encB ms l = L at HN HS HE0 HE3
 obtain ⟨nm, hnm⟩ : ∃ x, ms.length = x := ⟨_, rfl⟩
 obtain ⟨nl, hnl⟩ : ∃ x, l.length = x := ⟨_, rfl⟩
 rw [hnm, hnl] at HE0 HE3
 rw [hnm] at HGB HGN HM4
 rw [hnl] at HL1 HL64
 rw [hnm, hnl]
 have HNM := Lib.hid hnm
 have HNL := Lib.hid hnl
 clear hnm hnl
 have HBL := Lib.hid (show b < w.heap.size by
  obtain ⟨b', o', e, hc⟩ := HS.out (by rw [bts_length, HE0.out]; exact Nat.succ_pos _)
  cases e
  exact cell_lt (hc 0 (by rw [bts_length, HE0.out]; exact Nat.succ_pos _)))
 obtain ⟨i0, hi0, hz0, hz1, hz2⟩ := info_parts int_info
 obtain ⟨i5, hi5, hy0, hy1, hy2⟩ := info_parts inst_info
 have B0 := Lib.hid (Below.refl w.heap.size w)
 go_enter Tryz.func9, Tryz.ntmps9
 go_upto_region 3 with fail
 have O2 := Lib.hid (Ob.alloc (Ob.alloc (Ob.fresh w 25 [.slice none 0 0, .slice none 0 0]) (.cells #[.slice (some ⟨b, o, none⟩) n c, .int .i64 0, .int .i64 0, .int .i64 0] 79)) (.cells #[.slice none 0 0, .slice none 0 0] 25))
 have OG := Lib.hid (Ob.alloc (Ob.fresh (w.alloc (.cells #[.slice none 0 0, .slice none 0 0] 25)) 79 [.slice (some ⟨b, o, none⟩) n c, .int .i64 0, .int .i64 0, .int .i64 0]) (.cells #[.slice none 0 0, .slice none 0 0] 25))
 rw [show (w.alloc (.cells #[.slice none 0 0, .slice none 0 0] 25)).heap.size = w.heap.size + 1 by simp] at OG
 have O6 := Lib.hid (Ob.fresh ((w.alloc (.cells #[.slice none 0 0, .slice none 0 0] 25)).alloc (.cells #[.slice (some ⟨b, o, none⟩) n c, .int .i64 0, .int .i64 0, .int .i64 0] 79)) 25 [.slice none 0 0, .slice none 0 0])
 rw [show ((w.alloc (.cells #[.slice none 0 0, .slice none 0 0] 25)).alloc (.cells #[.slice (some ⟨b, o, none⟩) n c, .int .i64 0, .int .i64 0, .int .i64 0] 79)).heap.size = w.heap.size + 1 + 1 by simp] at O6
 have B1 := Lib.hid (below_alloc (below_alloc (below_alloc (B0.out) (.cells #[.slice none 0 0, .slice none 0 0] 25)) (.cells #[.slice (some ⟨b, o, none⟩) n c, .int .i64 0, .int .i64 0, .int .i64 0] 79)) (.cells #[.slice none 0 0, .slice none 0 0] 25))
 have Hq2 := Lib.hid (show w.heap.size ≤ w.heap.size by have := B0.out.size; omega)
 have Hg := Lib.hid (show w.heap.size ≤ w.heap.size + 1 by have := B0.out.size; omega)
 have Hq6 := Lib.hid (show w.heap.size ≤ w.heap.size + 1 + 1 by have := B0.out.size; omega)
 have Nq2q6 := Lib.hid (show w.heap.size ≠ w.heap.size + 1 + 1 by omega)
 clear B0
 generalize (((w.alloc (.cells #[.slice none 0 0, .slice none 0 0] 25)).alloc (.cells #[.slice (some ⟨b, o, none⟩) n c, .int .i64 0, .int .i64 0, .int .i64 0] 79)).alloc (.cells #[.slice none 0 0, .slice none 0 0] 25)) = w1 at O2 OG O6 B1 ⊢
 obtain ⟨q6, hq6⟩ : ∃ q6, w.heap.size + 1 + 1 = q6 := ⟨_, rfl⟩
 rw [hq6] at O6 Hq6 Nq2q6 ⊢
 clear hq6
 obtain ⟨g, hg⟩ : ∃ g, w.heap.size + 1 = g := ⟨_, rfl⟩
 rw [hg] at OG Hg ⊢
 clear hg
 obtain ⟨q2, hq2⟩ : ∃ q2, w.heap.size = q2 := ⟨_, rfl⟩
 have Hq2 := Lib.hid (Nat.le_of_eq hq2)
 rw [hq2] at O2 Nq2q6 ⊢
 clear hq2
 have D1 := Lib.hid (show DeS w w1 g b o n c 0 0 L q2 q6 0 0 none 0 none 0 ms l from ⟨⟨OG.out, HS.out.below B1.out, Only.of_below B1.out g, by have := HBL.out; have := Hg.out; omega⟩, O2.out, O6.out, World.ownsRow_nil _ _ _ _, World.ownsRow_nil _ _ _ _, Hq2.out, Hq6.out, Nq2q6.out, Hg.out, HBL.out⟩)
 have HGF := Lib.hid (show g ≠ 0 by have := HGL.out; have := Hg.out; omega)
 clear O2 OG O6 Hq2 Hq6 Nq2q6 Hg B1
 go_wp2_with fail
 refine (begin_any w1 g b o n c 0 L _ HE0.out HN.out HB.out HNC.out D1.out.R.refl).mono ?_
 rintro e w2 ⟨rfl, r2⟩
 have D2 := Lib.hid (D1.out.num r2)
 clear r2 D1
 go_wp2_with fail
 refine (number_any w2 g b o n c 3 2 nm 4 11 L _ HE3.out HN.out HB.out HNC.out HM4.out (by decide) D2.out.R.refl).mono ?_
 rintro e w3 ⟨rfl, r3⟩
 have D3 := Lib.hid (D2.out.num r3)
 have HD3 := Lib.hid (drop_next HE3.out)
 clear r3 D2
 generalize 3 + (lebN nm).length = p3 at D3 HD3
 go_wp2_with fail
 go_loopw [17] (fun i wr => ∃ (k p f : Nat) (mA : Option Addr) (mc : Nat), k ≤ nm ∧ i = .int .i64 k ∧ L.drop p = mapB (ms.drop k) ++ (lebN nl ++ codeB (l.drop 0)) ∧ DeS w wr g b o n c p f L q2 q6 k 0 mA mc none 0 ms l) (fun i _ => nm - (intOf i).toNat)
 case atStart => exact ⟨0, p3, 3, none, 0, Nat.zero_le _, rfl, HD3.out, D3.out⟩
 case round =>
  obtain ⟨k, p, f, mA, mc, hk, rfl, hdr, hds⟩ := hrel
  have DS := Lib.hid hds
  have HDR := Lib.hid hdr
  clear hds hdr D3 HD3
  by_cases hlt : k < nm
  · have l1 : (k : Int) < (nm : Int) := by omega
    have g4 : wrap64 ((k : Int) + 1) = (k : Int) + 1 := by have := HM4.out; unfold wrap64; omega
    have hkl : k < ms.length := HNM.out.symm ▸ hlt
    obtain ⟨hb0, hb1⟩ := HGB.out k hlt
    have HNW := Lib.hid (decide_eq_false (HGN.out k hlt))
    have HTK := Lib.hid (take_next (0 : Int) hkl)
    rw [mapB_drop hkl, List.append_assoc] at HDR
    clear hkl
    generalize ms.getD k 0 = z at hb0 hb1 HNW HTK HDR
    obtain ⟨x, rfl⟩ : ∃ x : Nat, z = x := ⟨z.toNat, by omega⟩
    rw [Int.toNat_natCast] at HDR
    have hx3 : x ≤ 3 := by omega
    go_wp2_with fail
    refine (number_any wr g b o n c p f x 3 12 L _ HDR.out HN.out HB.out HNC.out hx3 (by decide) DS.out.R.refl).mono ?_
    rintro e w4 ⟨rfl, r4⟩
    have D4 := Lib.hid (DS.out.num r4)
    have HD4 := Lib.hid (drop_next HDR.out)
    clear r4 DS HDR
    generalize p + (lebN x).length = p4 at D4 HD4
    have f0 : w4.cell? ⟨q6, 0, none⟩ = some (.slice mA k mc) := D4.out.o6.cell 0
    have y3 : w4.cell? ⟨g, 3, none⟩ = some (.int .i64 0) := D4.out.R.r.cell 3
    have HCT := Lib.hid (contains_any w4 x (ms.take k) mA k mc (by rw [List.length_take]; have := HNM.out; omega) (by have := HM4.out; omega) (own_sl D4.out.mo))
    rw [HNW.out] at HCT
    go_wp2_with fail
    refine HCT.out.mono ?_
    rintro e w5 ⟨rfl, rfl⟩
    clear HCT
    have E4 := Lib.hid (D4.out.below (below_alloc (Below.refl _ _) (.cells #[.int .i64 x] 3)))
    go_upto_region 10 with fail
    clear f0 y3
    have f0 : w4.cell? ⟨q6, 0, none⟩ = some (.slice mA k mc) := D4.out.o6.cell 0
    go_wp2_with
     (at_builtin
      refine wpList_append_sl _ rfl (.tmp 33) (.tmp 35) _ rfl w.heap.size 3 i0 _ 1 8 Tryz.underlying22 hi0 hz0 hz1 hz2 rfl (by omega) _ _ _ rfl E4.out.mo
       (some ⟨w4.heap.size, 0, none⟩) 1 1 [.int .i64 x] rfl rfl (Sl.fresh w4 #[.int .i64 x] 3 (0, 0)) (by intro u hu; rw [List.mem_singleton] at hu; subst hu; rfl) (by simp only [maxLen]; have := HM4.out; omega) (by have := HM4.out; omega) E4.out.R.k.size ?_
      intro v6 w6 hown hgr _
      obtain ⟨A6, c6, rfl, _, _, _, _⟩ := own_form hown
      have HD6 := Lib.hid (E4.out.maps hown hgr HTK.out)
      have O6 := E4.out.o6.grown hgr (fun e => own_typed E4.out.mo E4.out.o6 mod_ne.2.1 e.symm)
      have z0 : w6.cell? ⟨q6, 0, none⟩ = some (.slice mA k mc) := O6.cell 0
      have zf := O6.frozen
      clear hown hgr O6 E4 D4 f0)
    exact ⟨⟨k + 1, p4, p, A6, c6, by omega, by first | exact congrArg (Value.int .i64) (g4.trans (by push_cast; rfl)) | go_num, HD4.out, HD6.out⟩, by first | exact meas_lt2 hlt | (rw [g4]; exact meas_lt2 hlt) | (simp [intOf]; omega)⟩
  obtain rfl : nm = k := by omega
  have l1 : ¬ (nm : Int) < (nm : Int) := by omega
  rw [show ms.drop nm = [] from List.drop_of_length_le (by have := HNM.out; omega), show mapB [] = [] from rfl, List.nil_append] at HDR
  clear HGB HGN hk
  go_wp2_with fail
  refine (number_any wr g b o n c p f nl 64 11 L _ HDR.out HN.out HB.out HNC.out HL64.out (by decide) DS.out.R.refl).mono ?_
  rintro e w4 ⟨rfl, r4⟩
  have D4 := Lib.hid (DS.out.num r4)
  have HD4 := Lib.hid (drop_next HDR.out)
  clear r4 DS HDR
  generalize p + (lebN nl).length = p4 at D4 HD4
  have hz : ((nl : Int) == 0) = false := by rw [beq_eq_false_iff_ne]; have := HL1.out; omega
  go_wp2_with fail
  go_loopw [9] (fun i wr => ∃ (j p f : Nat) (cA : Option Addr) (cc : Nat), j ≤ nl ∧ i = .int .i64 j ∧ L.drop p = codeB (l.drop j) ∧ DeS w wr g b o n c p f L q2 q6 nm j mA mc cA cc ms l) (fun i _ => nl - (intOf i).toNat)
  case atStart => exact ⟨0, p4, p, none, 0, Nat.zero_le _, rfl, HD4.out, D4.out⟩
  case round =>
   clear D4 HD4
   obtain ⟨j, p, f, cA, cc, hj, rfl, hdr, hds⟩ := hrel
   have DS := Lib.hid hds
   have HDR := Lib.hid hdr
   clear hds hdr
   have y3 : wr.cell? ⟨g, 3, none⟩ = some (.int .i64 0) := DS.out.R.r.cell 3
   by_cases hlt : j < nl
   · have l2 : (j : Int) < (nl : Int) := by omega
     have g4 : wrap64 ((j : Int) + 1) = (j : Int) + 1 := by have := HL64.out; unfold wrap64; omega
     have hkl : j < l.length := HNL.out.symm ▸ hlt
     have hmem : l.getD j ins0 ∈ l := by rw [List.getD_eq_getElem?_getD, List.getElem?_eq_getElem hkl]; exact List.getElem_mem hkl
     have HRX := Lib.hid (HR.out _ hmem)
     have HIX := Lib.hid (HIM.out _ hmem)
     have HTK := Lib.hid (take_next ins0 hkl)
     rw [codeB_drop hkl] at HDR
     clear hkl hmem
     generalize l.getD j ins0 = ii at HRX HIX HTK HDR
     have HINS := Lib.hid (fun w' (hT : Frm w') hR => inst_any w' g b o n c p f L (codeB (l.drop (j + 1))) ii HRX.out HIX.out HDR.out HN.out HB.out HNC.out hT HGF.out hR)
     have HD5 := Lib.hid (drop_next HDR.out)
     clear HDR
     generalize p + (insB ii).length = p5 at HINS HD5
     go_upto_region 18 with fail
     clear y3
     obtain ⟨wd, hwd⟩ : ∃ wd, wr.drew = wd := ⟨_, rfl⟩
     have DD := Lib.hid (hwd ▸ DS.out.drew)
     clear DS
     refine wp_region_held_drew (S := fun w' => (w'.cell? ⟨q2, 0, none⟩ = some (Value.slice none 0 0))) (by kernel_rfl) (hwd ▸ (show (wd.cell? ⟨q2, 0, none⟩ = some (Value.slice none 0 0)) from DD.out.o2.cell 0)) (fun hHeld => ?_)
     refine tkq 0 57 rfl (by kernel_rfl) (by rfl) hHeld (fun _ _ _ h => h) (by intro w' hSw; go_simp; try with_reducible rfl) ?_
     simp only [Act.put, spa, spb, spc]
     refine tkq 2 59 rfl (by kernel_rfl) (by rfl) hHeld (fun _ _ _ h => h) (by intro w' hSw; go_simp; try with_reducible rfl) ?_
     simp only [Act.put, spa, spb, spc]
     refine wpAnyH_ready (rs := [1, 3]) (by kernel_rfl) (by simp) ?_
     refine AllReadyH.cons (o := ⟨some 58, _, _, _, _, _⟩) rfl (fun K' hK => ?_) ?_
     · have k1 : wd.cell? ⟨q6, 1, none⟩ = some (.slice cA j cc) := DD.out.o6.cell 1
       go_simp
       refine hK.out _ _ (DD.out.o2.cell 0) (fun hHeld => ?_)
       clear hK K'
       clear k1
       refine rdq 3 ⟨some 60, _, _, _, _, _⟩ (by kernel_rfl) rfl (fun K' hK => ?_)
       go_simp
       refine (HINS.out wd (HT.out.below DD.out.bw) DD.out.R.refl).mono ?_
       rintro e wx ⟨rfl, fx, rx⟩
       have DX := Lib.hid (DD.out.num rx)
       clear rx
       refine hK.out _ _ (DX.out.o2.cell 0) (fun hHeld => ?_)
       clear hK K'
       refine rdq 4 ⟨some 61, _, _, _, _, _⟩ (by kernel_rfl) rfl (fun K' hK => ?_)
       unfold insVal
       go_simp
       have DY := Lib.hid (DX.out.below (below_alloc (Below.refl _ _) (.cells #[.int .i64 ii.op, .int .i64 ii.d, .int .i64 ii.a, .int .i64 ii.b, .int .i64 ii.m] 59)))
       refine hK.out _ _ (DY.out.o2.cell 0) (fun hHeld => ?_)
       clear hK K'
       refine rdq 5 ⟨some 62, _, _, _, _, _⟩ (by kernel_rfl) rfl (fun K' hK => ?_)
       refine wp_append_sl _ (.tmp 58) (.tmp 61) _ rfl w.heap.size 59 i5 _ 5 40 Tryz.underlying23 hi5 hy0 hy1 hy2 rfl (by omega) _ _ _ rfl DY.out.co
        (some ⟨wx.heap.size, 0, none⟩) 1 1 (insc ii) rfl rfl (Sl.fresh wx #[.int .i64 ii.op, .int .i64 ii.d, .int .i64 ii.a, .int .i64 ii.b, .int .i64 ii.m] 59 (0, 0)) (insc_one _) (by simp only [maxLen]; have := HL64.out; omega) (by have := HL64.out; omega) DY.out.R.k.size ?_
       intro v5 w5 hown hgr _
       obtain ⟨A5, c5, rfl, _, _, _, _⟩ := own_form hown
       have DF := Lib.hid (DY.out.code hown hgr HTK.out)
       have OZ := Lib.hid (DY.out.o6.grown hgr (fun e => own_typed DY.out.co DY.out.o6 mod_ne.2.2.1 e.symm))
       have O2Z := Lib.hid (DY.out.o2.grown hgr (fun e => own_typed DY.out.co DY.out.o2 mod_ne.2.2.1 e.symm))
       clear hown hgr
       refine hK.out _ _ (O2Z.out.cell 0) (fun hHeld => ?_)
       clear hK K'
       refine tkq 6 63 rfl (by kernel_rfl) (by rfl) hHeld (fun _ _ _ h => h) (by intro w' hSw; go_simp; try with_reducible rfl) ?_
       simp only [Act.put, spa, spb, spc]
       refine rdq 7 ⟨none, _, _, _, _, _⟩ (by kernel_rfl) rfl (fun K' hK => ?_)
       have z1 := OZ.out.c1
       have zf := OZ.out.frozen
       go_simp
       refine hK.out _ _ (DF.out.o2.cell 0) (fun hHeld => ?_)
       clear hK K'
       clear z1 zf OZ O2Z
       refine wpAnyH_done (by kernel_rfl) ?_ _
       clear hwd
       go_wp2_with fail
       exact ⟨⟨j + 1, p5, fx, A5, c5, by omega, by first | exact congrArg (Value.int .i64) (g4.trans (by push_cast; rfl)) | go_num, HD5.out, DF.out⟩, by first | exact meas_lt2 hlt | (rw [g4]; exact meas_lt2 hlt) | (simp [intOf]; omega)⟩
     refine AllReadyH.cons (o := ⟨some 60, _, _, _, _, _⟩) rfl (fun K' hK => ?_) AllReadyH.nil
     go_simp
     refine (HINS.out wd (HT.out.below DD.out.bw) DD.out.R.refl).mono ?_
     rintro e wx ⟨rfl, fx, rx⟩
     have DX := Lib.hid (DD.out.num rx)
     clear rx
     refine hK.out _ _ (DX.out.o2.cell 0) (fun hHeld => ?_)
     clear hK K'
     refine wpAnyH_ready (rs := [1, 4]) (by kernel_rfl) (by simp) ?_
     refine AllReadyH.cons (o := ⟨some 58, _, _, _, _, _⟩) rfl (fun K' hK => ?_) ?_
     · have k1 : wx.cell? ⟨q6, 1, none⟩ = some (.slice cA j cc) := DX.out.o6.cell 1
       go_simp
       refine hK.out _ _ (DX.out.o2.cell 0) (fun hHeld => ?_)
       clear hK K'
       clear k1
       refine rdq 4 ⟨some 61, _, _, _, _, _⟩ (by kernel_rfl) rfl (fun K' hK => ?_)
       unfold insVal
       go_simp
       have DY := Lib.hid (DX.out.below (below_alloc (Below.refl _ _) (.cells #[.int .i64 ii.op, .int .i64 ii.d, .int .i64 ii.a, .int .i64 ii.b, .int .i64 ii.m] 59)))
       refine hK.out _ _ (DY.out.o2.cell 0) (fun hHeld => ?_)
       clear hK K'
       refine rdq 5 ⟨some 62, _, _, _, _, _⟩ (by kernel_rfl) rfl (fun K' hK => ?_)
       refine wp_append_sl _ (.tmp 58) (.tmp 61) _ rfl w.heap.size 59 i5 _ 5 40 Tryz.underlying23 hi5 hy0 hy1 hy2 rfl (by omega) _ _ _ rfl DY.out.co
        (some ⟨wx.heap.size, 0, none⟩) 1 1 (insc ii) rfl rfl (Sl.fresh wx #[.int .i64 ii.op, .int .i64 ii.d, .int .i64 ii.a, .int .i64 ii.b, .int .i64 ii.m] 59 (0, 0)) (insc_one _) (by simp only [maxLen]; have := HL64.out; omega) (by have := HL64.out; omega) DY.out.R.k.size ?_
       intro v5 w5 hown hgr _
       obtain ⟨A5, c5, rfl, _, _, _, _⟩ := own_form hown
       have DF := Lib.hid (DY.out.code hown hgr HTK.out)
       have OZ := Lib.hid (DY.out.o6.grown hgr (fun e => own_typed DY.out.co DY.out.o6 mod_ne.2.2.1 e.symm))
       have O2Z := Lib.hid (DY.out.o2.grown hgr (fun e => own_typed DY.out.co DY.out.o2 mod_ne.2.2.1 e.symm))
       clear hown hgr
       refine hK.out _ _ (O2Z.out.cell 0) (fun hHeld => ?_)
       clear hK K'
       refine tkq 6 63 rfl (by kernel_rfl) (by rfl) hHeld (fun _ _ _ h => h) (by intro w' hSw; go_simp; try with_reducible rfl) ?_
       simp only [Act.put, spa, spb, spc]
       refine rdq 7 ⟨none, _, _, _, _, _⟩ (by kernel_rfl) rfl (fun K' hK => ?_)
       have z1 := OZ.out.c1
       have zf := OZ.out.frozen
       go_simp
       refine hK.out _ _ (DF.out.o2.cell 0) (fun hHeld => ?_)
       clear hK K'
       clear z1 zf OZ O2Z
       refine wpAnyH_done (by kernel_rfl) ?_ _
       clear hwd
       go_wp2_with fail
       exact ⟨⟨j + 1, p5, fx, A5, c5, by omega, by first | exact congrArg (Value.int .i64) (g4.trans (by push_cast; rfl)) | go_num, HD5.out, DF.out⟩, by first | exact meas_lt2 hlt | (rw [g4]; exact meas_lt2 hlt) | (simp [intOf]; omega)⟩
     refine AllReadyH.cons (o := ⟨some 61, _, _, _, _, _⟩) rfl (fun K' hK => ?_) AllReadyH.nil
     unfold insVal
     go_simp
     have DY := Lib.hid (DX.out.below (below_alloc (Below.refl _ _) (.cells #[.int .i64 ii.op, .int .i64 ii.d, .int .i64 ii.a, .int .i64 ii.b, .int .i64 ii.m] 59)))
     refine hK.out _ _ (DY.out.o2.cell 0) (fun hHeld => ?_)
     clear hK K'
     refine rdq 1 ⟨some 58, _, _, _, _, _⟩ (by kernel_rfl) rfl (fun K' hK => ?_)
     have k1 : (wx.alloc (.cells #[.int .i64 ii.op, .int .i64 ii.d, .int .i64 ii.a, .int .i64 ii.b, .int .i64 ii.m] 59)).cell? ⟨q6, 1, none⟩ = some (.slice cA j cc) := DY.out.o6.cell 1
     go_simp
     refine hK.out _ _ (DY.out.o2.cell 0) (fun hHeld => ?_)
     clear hK K'
     clear k1
     refine rdq 5 ⟨some 62, _, _, _, _, _⟩ (by kernel_rfl) rfl (fun K' hK => ?_)
     refine wp_append_sl _ (.tmp 58) (.tmp 61) _ rfl w.heap.size 59 i5 _ 5 40 Tryz.underlying23 hi5 hy0 hy1 hy2 rfl (by omega) _ _ _ rfl DY.out.co
      (some ⟨wx.heap.size, 0, none⟩) 1 1 (insc ii) rfl rfl (Sl.fresh wx #[.int .i64 ii.op, .int .i64 ii.d, .int .i64 ii.a, .int .i64 ii.b, .int .i64 ii.m] 59 (0, 0)) (insc_one _) (by simp only [maxLen]; have := HL64.out; omega) (by have := HL64.out; omega) DY.out.R.k.size ?_
     intro v5 w5 hown hgr _
     obtain ⟨A5, c5, rfl, _, _, _, _⟩ := own_form hown
     have DF := Lib.hid (DY.out.code hown hgr HTK.out)
     have OZ := Lib.hid (DY.out.o6.grown hgr (fun e => own_typed DY.out.co DY.out.o6 mod_ne.2.2.1 e.symm))
     have O2Z := Lib.hid (DY.out.o2.grown hgr (fun e => own_typed DY.out.co DY.out.o2 mod_ne.2.2.1 e.symm))
     clear hown hgr
     refine hK.out _ _ (O2Z.out.cell 0) (fun hHeld => ?_)
     clear hK K'
     refine tkq 6 63 rfl (by kernel_rfl) (by rfl) hHeld (fun _ _ _ h => h) (by intro w' hSw; go_simp; try with_reducible rfl) ?_
     simp only [Act.put, spa, spb, spc]
     refine rdq 7 ⟨none, _, _, _, _, _⟩ (by kernel_rfl) rfl (fun K' hK => ?_)
     have z1 := OZ.out.c1
     have zf := OZ.out.frozen
     go_simp
     refine hK.out _ _ (DF.out.o2.cell 0) (fun hHeld => ?_)
     clear hK K'
     clear z1 zf OZ O2Z
     refine wpAnyH_done (by kernel_rfl) ?_ _
     clear hwd
     go_wp2_with fail
     exact ⟨⟨j + 1, p5, fx, A5, c5, by omega, by first | exact congrArg (Value.int .i64) (g4.trans (by push_cast; rfl)) | go_num, HD5.out, DF.out⟩, by first | exact meas_lt2 hlt | (rw [g4]; exact meas_lt2 hlt) | (simp [intOf]; omega)⟩
   obtain rfl : nl = j := by omega
   have l2 : ¬ (nl : Int) < (nl : Int) := by omega
   have hp : ¬ (p : Int) < (n : Int) := by
    have h1 := HDR.out
    rw [show l.drop nl = [] from List.drop_of_length_le (by have := HNL.out; omega), show codeB [] = [] from rfl, List.drop_eq_nil_iff, ← HN.out] at h1
    omega
   replace y3 : wr.cell? ⟨g, 3, none⟩ = some (.int .i64 0) := y3
   have y1 : wr.cell? ⟨g, 1, none⟩ = some (.int .i64 p) := DS.out.R.r.cell 1
   have f0 : wr.cell? ⟨q6, 0, none⟩ = some (.slice mA nm mc) := DS.out.o6.cell 0
   have f1 : wr.cell? ⟨q6, 1, none⟩ = some (.slice cA nl cc) := DS.out.o6.cell 1
   have z0 : wr.cell? ⟨q2, 0, none⟩ = some (.slice none 0 0) := DS.out.o2.cell 0
   have z1 : wr.cell? ⟨q2, 1, none⟩ = some (.slice none 0 0) := DS.out.o2.cell 1
   have zf := DS.out.o2.frozen
   go_wp2_with fail
   clear f0 f1 z0 z1 zf y1 y3
   have HMO := DS.out.mo
   have HCO := DS.out.co
   rw [show ms.take nm = ms from List.take_of_length_le (by have := HNM.out; omega)] at HMO
   rw [show l.take nl = l from List.take_of_length_le (by have := HNL.out; omega)] at HCO
   have OF := ((DS.out.o2.set_ 0 (.slice mA nm mc)).set_ 1 (.slice cA nl cc))
   have MF := ownsRow_setCell_other (ownsRow_setCell_other HMO (own_typed HMO DS.out.o2 mod_ne.2.1) (a := ⟨q2, 0, none⟩) (.slice mA nm mc)) (own_typed HMO DS.out.o2 mod_ne.2.1) (a := ⟨q2, 1, none⟩) (.slice cA nl cc)
   have CF := ownsRow_setCell_other (ownsRow_setCell_other HCO (own_typed HCO DS.out.o2 mod_ne.2.2.1) (a := ⟨q2, 0, none⟩) (.slice mA nm mc)) (own_typed HCO DS.out.o2 mod_ne.2.2.1) (a := ⟨q2, 1, none⟩) (.slice cA nl cc)
   have BF := (DS.out.bw.setCell (p := ⟨q2, 0, none⟩) DS.out.l2 (.slice mA nm mc)).setCell (p := ⟨q2, 1, none⟩) DS.out.l2 (.slice cA nl cc)
   clear DS HMO HCO
   generalize (wr.setCell ⟨q2, 0, none⟩ (.slice mA nm mc)).setCell ⟨q2, 1, none⟩ (.slice cA nl cc) = wf at OF MF CF BF ⊢
   have s0 : wf.cell? ⟨q2, 0, none⟩ = some (.slice mA nm mc) := OF.cell 0
   have s1 : wf.cell? ⟨q2, 1, none⟩ = some (.slice cA nl cc) := OF.cell 1
   exact bodyPost_ret (v := .tuple #[.agg #[.slice mA nm mc, .slice cA nl cc], .int .i64 0, .int .i64 0]) (by simp [results, Tryz.results9, go_sem, s0, s1]) rfl ⟨mA, mc, cA, cc, rfl, MF, CF, BF⟩
end Go.Proofs.YtikkmkomlajnfaaGreatDoor.Wf
end

section
namespace Go.Proofs.YtikkmkomlajnfaaGreatDoor.Wf
set_option maxRecDepth 100000
set_option maxHeartbeats 4000000
open Go.RowKit
open Go.Proofs.YtikkmkomlajnfaaGreatDoor.Op (InstV insc insVal inss ins0 ins_at inss_length)
open Go.Proofs.YtikkmkomlajnfaaGreatDoor.Jd (ints ints_length int_at meas_lt2)

theorem equalI_any (w : World) (l : List Int) (A A' : Option Addr) (n c c' : Nat) (hn : n = l.length) (hm : n ≤ 140737488351232) (hs : Sl w A (ints l)) (hs' : Sl w A' (ints l)) :
 Calls Tryz.prog 27 #[.slice A n c, .slice A' n c'] w fun e w' => e = .returned (.bool true) ∧ Below w.heap.size w w' := by
 have HN := Lib.hid hn
 have HM := Lib.hid hm
 have HS := Lib.hid hs
 have HS' := Lib.hid hs'
 clear hn hm hs hs'
 go_enter Tryz.func27, Tryz.ntmps27
 go_wp2_with fail
 go_loopw [13] (fun i wr => ∃ k : Nat, k ≤ n ∧ i = .int .i64 k ∧ Below w.heap.size w wr) (fun i _ => n - (intOf i).toNat)
 case atStart => exact ⟨0, Nat.zero_le _, rfl, Below.refl _ _⟩
 case round =>
  obtain ⟨k, hk, rfl, hb⟩ := hrel
  have HB := Lib.hid hb
  have S1 := Lib.hid (HS.out.below hb)
  have S2 := Lib.hid (HS'.out.below hb)
  clear hb
  by_cases hlt : k < n
  · have g1 : (k : Int) < (n : Int) := by omega
    have g0 : (0 : Int) ≤ (k : Int) := by omega
    have g4 : wrap64 ((k : Int) + 1) = (k : Int) + 1 := by have := HM.out; unfold wrap64; omega
    have hkl : k < l.length := HN.out ▸ hlt
    obtain ⟨b, o, rfl, hc⟩ := int_at S1.out (Nat.lt_of_le_of_lt (Nat.zero_le _) hkl)
    obtain ⟨b', o', rfl, hc'⟩ := int_at S2.out (Nat.lt_of_le_of_lt (Nat.zero_le _) hkl)
    have c0 := hc k hkl
    have c0' := hc' k hkl
    clear hc hc' hkl
    generalize l.getD k 0 = x at c0 c0'
    go_upto_region 6 with fail
    go_quiet (fail)
    go_wp2_with fail
    exact ⟨⟨k + 1, by omega, by first | exact congrArg (Value.int .i64) (g4.trans (by push_cast; rfl)) | go_num, below_drewN HB.out _⟩, by first | exact meas_lt2 hlt | (rw [g4]; exact meas_lt2 hlt) | (simp [intOf]; omega)⟩
  obtain rfl : n = k := by omega
  have g1 : ¬ (n : Int) < (n : Int) := by omega
  go_wp2_with fail
  go_ret
  exact ⟨rfl, HB.out⟩

theorem equalC_any (w : World) (l : List InstV) (A A' : Option Addr) (n c c' : Nat) (hn : n = l.length) (hm : n ≤ 140737488351232) (hs : Sl w A (inss l)) (hs' : Sl w A' (inss l)) :
 Calls Tryz.prog 28 #[.slice A n c, .slice A' n c'] w fun e w' => e = .returned (.bool true) ∧ Below w.heap.size w w' := by
 have HN := Lib.hid hn
 have HM := Lib.hid hm
 have HS := Lib.hid hs
 have HS' := Lib.hid hs'
 clear hn hm hs hs'
 go_enter Tryz.func28, Tryz.ntmps28
 go_wp2_with fail
 go_loopw [13] (fun i wr => ∃ k : Nat, k ≤ n ∧ i = .int .i64 k ∧ Below w.heap.size w wr) (fun i _ => n - (intOf i).toNat)
 case atStart => exact ⟨0, Nat.zero_le _, rfl, Below.refl _ _⟩
 case round =>
  obtain ⟨k, hk, rfl, hb⟩ := hrel
  have HB := Lib.hid hb
  have S1 := Lib.hid (HS.out.below hb)
  have S2 := Lib.hid (HS'.out.below hb)
  clear hb
  by_cases hlt : k < n
  · have g1 : (k : Int) < (n : Int) := by omega
    have g0 : (0 : Int) ≤ (k : Int) := by omega
    have g4 : wrap64 ((k : Int) + 1) = (k : Int) + 1 := by have := HM.out; unfold wrap64; omega
    have hkl : k < l.length := HN.out ▸ hlt
    obtain ⟨b, o, rfl, hbl1, hc⟩ := ins_at S1.out (Nat.lt_of_le_of_lt (Nat.zero_le _) hkl)
    obtain ⟨b', o', rfl, hbl2, hc'⟩ := ins_at S2.out (Nat.lt_of_le_of_lt (Nat.zero_le _) hkl)
    obtain ⟨c0, c1, c2, c3, c4⟩ := hc k hkl
    obtain ⟨d0, d1, d2, d3, d4⟩ := hc' k hkl
    clear hc hc' hkl
    generalize l.getD k ins0 = ii at c0 c1 c2 c3 c4 d0 d1 d2 d3 d4
    obtain ⟨op, d, a, s, m⟩ := ii
    dsimp only at c0 c1 c2 c3 c4 d0 d1 d2 d3 d4
    go_upto_region 6 with fail
    go_quiet (fail)
    go_wp2_with fail
    exact ⟨⟨k + 1, by omega, by first | exact congrArg (Value.int .i64) (g4.trans (by push_cast; rfl)) | go_num, below_drewN HB.out _⟩, by first | exact meas_lt2 hlt | (rw [g4]; exact meas_lt2 hlt) | (simp [intOf]; omega)⟩
  obtain rfl : n = k := by omega
  have g1 : ¬ (n : Int) < (n : Int) := by omega
  go_wp2_with fail
  go_ret
  exact ⟨rfl, HB.out⟩

theorem Same_any (w : World) (ms : List Int) (l : List InstV) (mA mA' cA cA' : Option Addr) (nm cm cm' n c c' : Nat) (hnm : nm = ms.length) (hmm : nm ≤ 140737488351232) (hn : n = l.length) (hnn : n ≤ 140737488351232) (h1 : Sl w mA (ints ms)) (h2 : Sl w mA' (ints ms)) (h3 : Sl w cA (inss l)) (h4 : Sl w cA' (inss l)) :
 Calls Tryz.prog 10 #[.agg #[.slice mA nm cm, .slice cA n c], .agg #[.slice mA' nm cm', .slice cA' n c']] w fun e w' => e = .returned (.bool true) ∧ Below w.heap.size w w' := by
 have HI := Lib.hid (fun w hs hs' => equalI_any w ms mA mA' nm cm cm' hnm hmm hs hs')
 have HC := Lib.hid (fun w hs hs' => equalC_any w l cA cA' n c c' hn hnn hs hs')
 have H1 := Lib.hid h1
 have H2 := Lib.hid h2
 have H3 := Lib.hid h3
 have H4 := Lib.hid h4
 have B0 := Lib.hid (Below.refl w.heap.size w)
 clear h1 h2 h3 h4 hnm hmm hn hnn
 go_enter Tryz.func10, Tryz.ntmps10
 go_upto_region 1 with fail
 have O2 := Lib.hid (Ob.alloc (Ob.fresh w 25 [.slice mA nm cm, .slice cA n c]) (.cells #[.slice mA' nm cm', .slice cA' n c'] 25))
 have O3 := Lib.hid (Ob.fresh (w.alloc (.cells #[.slice mA nm cm, .slice cA n c] 25)) 25 [.slice mA' nm cm', .slice cA' n c'])
 rw [show (w.alloc (.cells #[.slice mA nm cm, .slice cA n c] 25)).heap.size = w.heap.size + 1 by simp] at O3
 have B1 := Lib.hid (below_alloc (below_alloc (B0.out) (.cells #[.slice mA nm cm, .slice cA n c] 25)) (.cells #[.slice mA' nm cm', .slice cA' n c'] 25))
 have Hq2 := Lib.hid (show w.heap.size ≤ w.heap.size by have := B0.out.size; omega)
 have Hq3 := Lib.hid (show w.heap.size ≤ w.heap.size + 1 by have := B0.out.size; omega)
 have Nq2q3 := Lib.hid (show w.heap.size ≠ w.heap.size + 1 by omega)
 clear B0
 generalize ((w.alloc (.cells #[.slice mA nm cm, .slice cA n c] 25)).alloc (.cells #[.slice mA' nm cm', .slice cA' n c'] 25)) = w1 at O2 O3 B1 ⊢
 obtain ⟨q3, hq3⟩ : ∃ q3, w.heap.size + 1 = q3 := ⟨_, rfl⟩
 rw [hq3] at O3 Hq3 Nq2q3 ⊢
 clear hq3
 obtain ⟨q2, hq2⟩ : ∃ q2, w.heap.size = q2 := ⟨_, rfl⟩
 have Hq2 := Lib.hid (Nat.le_of_eq hq2)
 rw [hq2] at O2 Nq2q3 ⊢
 clear hq2
 have f0 := O2.out.c0
 have f1 := O2.out.c1
 have f2 := O3.out.c0
 have f3 := O3.out.c1
 go_wp2_with fail
 refine (HI.out w1 (H1.out.below B1.out) (H2.out.below B1.out)).mono ?_
 rintro e w2 ⟨rfl, b2⟩
 have B2 := Lib.hid (B1.out.trans (b2.mono B1.out.size))
 have P2 := Lib.hid (O2.out.below b2 O2.out.lt)
 have P3 := Lib.hid (O3.out.below b2 O3.out.lt)
 clear f0 f1 f2 f3 b2
 have f1 := P2.out.c1
 have f3 := P3.out.c1
 go_wp2_with fail
 refine (HC.out w2 (H3.out.below B2.out) (H4.out.below B2.out)).mono ?_
 rintro e w3 ⟨rfl, b3⟩
 have B3 := Lib.hid (B2.out.trans (b3.mono B2.out.size))
 clear f1 f3 b3
 go_wp2_with fail
 go_ret
 exact ⟨rfl, B3.out⟩
end Go.Proofs.YtikkmkomlajnfaaGreatDoor.Wf
end
