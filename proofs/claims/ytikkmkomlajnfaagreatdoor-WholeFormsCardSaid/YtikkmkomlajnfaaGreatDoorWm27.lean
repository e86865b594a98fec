/-
  Numbers as bytes, seven bits each. Plain.
  Layer 1: leb.put, Put, PutInt, Get, GetInt. Conditions: those of each theorem.
  Layer 1: leb.PutInt, GetInt. Conditions: those of each theorem.
  Layers 2 and 4: wire.formed; ops.Right of a row, Name, Find. Conditions: those of each theorem.
-/
import Derived.Test.YtikkmkomlajnfaaGreatDoorWm01
import Derived.Test.YtikkmkomlajnfaaGreatDoorChecked
import Derived.Test.YtikkmkomlajnfaaGreatDoorWm02
import Derived.LoopTactic
import Derived.LoopN
import Derived.Deep.RegionHeld3
import Derived.Deep.DeepCutAuto
import Derived.Test.YtikkmkomlajnfaaGreatDoorWm05
import Derived.Test.YtikkmkomlajnfaaGreatDoorWm03
set_option linter.unusedVariables false
set_option linter.unusedSimpArgs false
section
namespace Go.Proofs.YtikkmkomlajnfaaGreatDoor.Wf

def lebF : Nat → Nat → List Nat
 | 0, n => [n]
 | f + 1, n => if n < 128 then [n] else (n % 128 + 128) :: lebF f (n / 128)
/-- a number of 64 bits -/
def lebN (n : Nat) : List Nat := lebF 9 n
theorem lebF_len : ∀ f n, 1 ≤ (lebF f n).length ∧ (lebF f n).length ≤ f + 1
 | 0, n => ⟨Nat.le_refl _, Nat.le_refl _⟩
 | f + 1, n => by
   unfold lebF
   by_cases h : n < 128
   · rw [if_pos h]; exact ⟨Nat.le_refl _, by simp⟩
   rw [if_neg h]
   have := lebF_len f (n / 128)
   simp only [List.length_cons]
   omega
theorem lebF_small {f n : Nat} (h : n < 128) : lebF f n = [n] := by
 cases f with
 | zero => rfl
 | succ f => unfold lebF; rw [if_pos h]
theorem lebF_big {f n : Nat} (h : ¬ n < 128) : lebF (f + 1) n = (n % 128 + 128) :: lebF f (n / 128) := by
 conv => lhs; unfold lebF
 rw [if_neg h]
theorem or_shift {a b k : Nat} (h : a < 2 ^ k) : a ||| (b <<< k) = a + b * 2 ^ k := by
 have := Nat.shiftLeft_add_eq_or_of_lt h b
 rw [Nat.or_comm, ← this, Nat.shiftLeft_eq, Nat.add_comm]
/-- signed numbers: the sign behind -/
def zig (n : Int) : Nat := if n < 0 then (-2 * n - 1).toNat else (2 * n).toNat
theorem zig_lt {n : Int} (h0 : -9223372036854775808 ≤ n) (h1 : n ≤ 9223372036854775807) : zig n < 18446744073709551616 := by
 unfold zig
 split <;> omega
end Go.Proofs.YtikkmkomlajnfaaGreatDoor.Wf
end

section
namespace Go.Proofs.YtikkmkomlajnfaaGreatDoor.Wf
set_option maxRecDepth 100000
set_option maxHeartbeats 4000000
open Go.RowKit

/-- bytes as cells -/
def bts (l : List Nat) : List Value := l.map fun (x : Nat) => Value.int .u8 (x : Int)
theorem bts_length (l : List Nat) : (bts l).length = l.length := by simp [bts]
theorem bts_app (a b : List Nat) : bts (a ++ b) = bts a ++ bts b := by simp [bts]
theorem bts_one (l : List Nat) : ∀ u ∈ bts l, u.oneCell' = true := by
 intro u hu
 obtain ⟨x, _, rfl⟩ := List.mem_map.1 hu
 rfl
theorem u8_parts : (Tryz.prog.info? 5).map (fun i => (i.zero, i.size, i.bytes)) = some (some (.int .u8 0), 1, 1) := by kernel_rfl

theorem or8_all : ∀ y : Nat, y < 256 → bits .or .u8 (y : Int) 128 = ((y % 128 + 128 : Nat) : Int) := by decide +kernel
theorem or8 (x : Nat) : bits .or .u8 ((x : Int) % 256) 128 = ((x % 128 + 128 : Nat) : Int) := by
 have h := or8_all (x % 256) (Nat.mod_lt _ (by decide))
 rw [show ((x % 256 : Nat) : Int) = (x : Int) % 256 by omega] at h
 rw [h]
 congr 2
 omega

theorem put_any (w : World) (B : Nat) (v : Value) (k : Nat) (xs : List Value) (n : Nat) (hn : n < 18446744073709551616) (hown : w.ownsRow B 5 1 v k xs) (hB : B ≤ w.heap.size) (hk : k ≤ 1000000) :
 Calls Tryz.prog 42 #[v, .int .u64 n] w fun e w' => ∃ v', e = .returned v' ∧ w'.ownsRow B 5 1 v' (k + (lebN n).length) (xs ++ bts (lebN n)) ∧ Below B w w' := by
 have HO := Lib.hid hown
 have HB := Lib.hid hB
 have HK := Lib.hid hk
 have HN := Lib.hid hn
 obtain ⟨X, hX⟩ : ∃ X, xs ++ bts (lebN n) = X := ⟨_, rfl⟩
 obtain ⟨K, hK⟩ : ∃ K, k + (lebN n).length = K := ⟨_, rfl⟩
 rw [hX, hK]
 have HX := Lib.hid hX
 have HKK := Lib.hid hK
 clear hown hB hk hn hX hK
 obtain ⟨i0, hi0, hz0, hz1, hz2⟩ := info_parts u8_parts
 go_enter Tryz.func42, Tryz.ntmps42
 go_wp2_with fail
 go_loopw [0, 1] (fun u m wr => ∃ (f x j : Nat) (ys : List Value), m = .int .u64 x ∧ x < 128 ^ (f + 1) ∧ x < 18446744073709551616 ∧ f ≤ 9 ∧ j ≤ 1000010 ∧ j + f = k + 9 ∧ wr.ownsRow B 5 1 u j ys ∧ ys ++ bts (lebF f x) = X ∧ j + (lebF f x).length = K ∧ Below B w wr) (fun _ m _ => (intOf m).toNat)
 case atStart => exact ⟨9, n, k, xs, rfl, Nat.lt_of_lt_of_le HN.out (by decide), HN.out, Nat.le_refl _, by have := HK.out; omega, rfl, HO.out, HX.out, HKK.out, Below.refl _ _⟩
 case round =>
  obtain ⟨f, x, j, ys, rfl, h1, h2, hf, hj, hjf, hown, hx, hkk, hb⟩ := hrel
  have HO1 := Lib.hid hown
  have HX1 := Lib.hid hx
  have HK1 := Lib.hid hkk
  have HB1 := Lib.hid hb
  clear hown hx hkk hb HO HX HKK
  by_cases c : x < 128
  · have g1 : ¬ (128 : Int) ≤ (x : Int) := by omega
    rw [lebF_small c] at HX1 HK1
    go_wp2_with
    (at_builtin
     refine wpList_append_sl _ rfl (.tmp 15) (.tmp 18) _ rfl B 5 i0 _ 1 1 Tryz.underlying37 hi0 hz0 hz1 hz2 rfl (by omega) u0 j ys rfl (World.ownsRow.alloc HO1.out _)
      (some ⟨wr.heap.size, 0, none⟩) 1 1 (bts [x]) rfl rfl (Sl.fresh wr (bts [x]).toArray 5 (0, 0)) (bts_one _) (by simp only [maxLen]; omega) (by omega) (Nat.le_trans HB.out (Nat.le_trans HB1.out.size (below_alloc (Below.refl wr.heap.size wr) (.cells (bts [x]).toArray 5)).size)) ?_
     intro v2 w5 hown hgr hv2
     have HR := Lib.hid hown
     have HB5 := Lib.hid (HB1.out.trans ((below_alloc (Below.refl wr.heap.size wr) (.cells (bts [x]).toArray 5)).mono (Nat.le_trans HB.out HB1.out.size)))
     have HB6 := Lib.hid (HB5.out.grown hgr (Nat.le_trans HB.out HB5.out.size) fun b e => (HO1.out.lt b e).1)
     clear hown hgr hv2)
    go_ret
    exact ⟨_, rfl, by rw [← HX1.out, ← HK1.out]; exact HR.out, HB6.out⟩
  have g1 : (128 : Int) ≤ (x : Int) := by omega
  have g2 := or8 x
  obtain ⟨f', rfl⟩ : ∃ f', f = f' + 1 := ⟨f - 1, by
   cases f with
   | zero => exact absurd h1 (by rw [show (128 : Nat) ^ (0 + 1) = 128 from rfl]; omega)
   | succ f => rfl⟩
  rw [lebF_big c] at HX1 HK1
  have h3 : x / 128 < 128 ^ (f' + 1) := by rw [Nat.pow_succ] at h1; omega
  go_wp2_with
  (at_builtin
   refine wpList_append_sl _ rfl (.tmp 7) (.tmp 11) _ rfl B 5 i0 _ 1 1 Tryz.underlying37 hi0 hz0 hz1 hz2 rfl (by omega) u0 j ys rfl (World.ownsRow.alloc HO1.out _)
    (some ⟨wr.heap.size, 0, none⟩) 1 1 (bts [x % 128 + 128]) rfl rfl (Sl.fresh wr (bts [x % 128 + 128]).toArray 5 (0, 0)) (bts_one _) (by simp only [maxLen]; omega) (by omega) (Nat.le_trans HB.out (Nat.le_trans HB1.out.size (below_alloc (Below.refl wr.heap.size wr) (.cells (bts [x % 128 + 128]).toArray 5)).size)) ?_
   intro v2 w5 hown hgr hv2
   have HR := Lib.hid hown
   have HB5 := Lib.hid (HB1.out.trans ((below_alloc (Below.refl wr.heap.size wr) (.cells (bts [x % 128 + 128]).toArray 5)).mono (Nat.le_trans HB.out HB1.out.size)))
   have HB6 := Lib.hid (HB5.out.grown hgr (Nat.le_trans HB.out HB5.out.size) fun b e => (HO1.out.lt b e).1)
   clear hown hgr hv2)
  exact ⟨⟨f', x / 128, j + 1, ys ++ bts [x % 128 + 128], congrArg (Value.int .u64) (by omega), h3, by omega, by omega, by have := HK.out; omega, by omega, HR.out, by rw [← HX1.out, List.append_assoc, ← bts_app]; rfl, by rw [← HK1.out, List.length_cons]; omega, HB6.out⟩, by simp [intOf]; omega⟩

def nws (l : List Nat) : List Value := l.map fun (x : Nat) => Value.int .u64 (x : Int)
theorem nws_length (l : List Nat) : (nws l).length = l.length := by simp [nws]
def putN (l : List Nat) : List Nat := l.flatMap lebN
theorem nw_at {w : World} {A : Option Addr} {l : List Nat} (h : Sl w A (nws l)) (hn : 0 < l.length) : ∃ b o, A = some ⟨b, o, none⟩ ∧ ∀ k, k < l.length → w.cell? ⟨b, o + k, none⟩ = some (.int .u64 ((l.getD k 0 : Nat) : Int)) := by
 obtain ⟨b, o, e, hc⟩ := h (by rw [nws_length]; exact hn)
 rw [nws_length] at hc
 refine ⟨b, o, e, fun k hk => ?_⟩
 rw [hc k hk]
 simp [nws, List.getD_eq_getElem?_getD, List.getElem?_eq_getElem hk]
theorem put_take {l : List Nat} {k : Nat} (h : k < l.length) : putN (l.take (k + 1)) = putN (l.take k) ++ lebN (l.getD k 0) := by
 unfold putN
 rw [List.take_succ_eq_append_getElem h, List.flatMap_append, List.getD_eq_getElem?_getD, List.getElem?_eq_getElem h]
 simp
theorem put_len (l : List Nat) : (putN l).length ≤ l.length * 10 := by
 induction l with
 | nil => exact Nat.le_refl _
 | cons a r ih =>
   have h : (lebN a).length ≤ 10 := (lebF_len 9 a).2
   unfold putN at ih ⊢
   rw [List.flatMap_cons, List.length_append, List.length_cons]
   omega

theorem Put_any (w : World) (ns : List Nat) (A : Option Addr) (n c : Nat) (hn : n = ns.length) (hm : n ≤ 64) (hb : ∀ x ∈ ns, x < 18446744073709551616) (hs : Sl w A (nws ns)) :
 Calls Tryz.prog 18 #[.slice A n c] w fun e w' => ∃ v, e = .returned v ∧ w'.ownsRow w.heap.size 5 1 v (putN ns).length (bts (putN ns)) ∧ Below w.heap.size w w' := by
 have HN := Lib.hid hn
 have HS := Lib.hid hs
 have HB := Lib.hid hb
 clear hn hs hb
 go_enter Tryz.func18, Tryz.ntmps18
 go_wp2_with fail
 go_loopw [3, 8] (fun u i wr => ∃ k : Nat, k ≤ n ∧ i = .int .i64 k ∧ wr.ownsRow w.heap.size 5 1 u (putN (ns.take k)).length (bts (putN (ns.take k))) ∧ Below w.heap.size w wr) (fun _ i _ => n - (intOf i).toNat)
 case atStart => exact ⟨0, Nat.zero_le _, rfl, World.ownsRow_nil _ _ _ _, Below.refl _ _⟩
 case round =>
  obtain ⟨k, hk, rfl, hown, hbl⟩ := hrel
  have HO := Lib.hid hown
  have BL := Lib.hid hbl
  clear hown hbl
  by_cases hlt : k < n
  · have g1 : (k : Int) < (n : Int) := by omega
    have g0 : (0 : Int) ≤ (k : Int) := by omega
    have g4 : wrap64 ((k : Int) + 1) = (k : Int) + 1 := by unfold wrap64; omega
    have hkl : k < ns.length := by have := HN.out; omega
    obtain ⟨b, o, rfl, hc⟩ := nw_at (HS.out.below BL.out) (by omega)
    have c0 := hc k hkl
    have HX := Lib.hid (HB.out (ns.getD k 0) (by rw [List.getD_eq_getElem?_getD, List.getElem?_eq_getElem hkl]; exact List.getElem_mem hkl))
    have HT := Lib.hid (put_take hkl)
    have hl1 := put_len (ns.take k)
    have hl2 : (ns.take k).length ≤ 64 := by rw [List.length_take]; omega
    have HL := Lib.hid (show (putN (ns.take k)).length ≤ 1000000 by omega)
    clear hl1 hl2
    clear hc hkl
    generalize ns.getD k 0 = x at c0 HX HT
    go_wp2_with fail
    refine (put_any wr w.heap.size u3 _ _ x HX.out HO.out BL.out.size HL.out).mono ?_
    rintro e w3 ⟨v', rfl, hown, hb3⟩
    have HO3 := Lib.hid hown
    have BL3 := Lib.hid (BL.out.trans hb3)
    clear hown hb3
    go_wp2_with fail
    refine ⟨⟨k + 1, by omega, by go_num, ?_, BL3.out⟩, by simp [intOf]; omega⟩
    rw [HT.out, List.length_append, bts_app]
    exact HO3.out
  have g1 : ¬ (k : Int) < (n : Int) := by omega
  have hke : ns.take k = ns := List.take_of_length_le (by have := HN.out; omega)
  rw [hke] at HO
  obtain ⟨A', c', hu, hle, _, _, _⟩ := own_form HO.out
  subst hu
  go_wp2_with fail
  go_ret
  exact ⟨_, rfl, HO.out, BL.out⟩

theorem and7_all : ∀ y : Nat, y < 256 → bits .and .u8 (y : Int) 127 = ((y % 128 : Nat) : Int) := by decide +kernel
theorem orx {acc m k : Nat} (h1 : acc < 128 ^ k) (h2 : acc + m % 128 * 128 ^ k < 18446744073709551616) : bits .or .u64 (acc : Int) (IntKind.u64.wrap ((m : Int) % 128 * 2 ^ (7 * k))) = ((acc + m % 128 * 128 ^ k : Nat) : Int) := by
 have e : (128 : Nat) ^ k = 2 ^ (7 * k) := by rw [Nat.pow_mul]
 rw [e] at h1 h2 ⊢
 have e2 : (m : Int) % 128 * 2 ^ (7 * k) = ((m % 128 * 2 ^ (7 * k) : Nat) : Int) := by push_cast; rfl
 have l1 : acc < 18446744073709551616 := by omega
 have l2 : m % 128 * 2 ^ (7 * k) < 18446744073709551616 := by omega
 rw [e2, ← uv_lit acc l1, ← uv_lit _ l2, uv_wrap, uv_or]
 unfold uv
 rw [BitVec.toNat_or, BitVec.toNat_ofNat, BitVec.toNat_ofNat, Nat.mod_eq_of_lt l1, Nat.mod_eq_of_lt l2, ← Nat.shiftLeft_eq, or_shift h1, Nat.shiftLeft_eq]
theorem bt_at {w : World} {A : Option Addr} {l : List Nat} (h : Sl w A (bts l)) (hn : 0 < l.length) : ∃ b o, A = some ⟨b, o, none⟩ ∧ ∀ k, k < l.length → w.cell? ⟨b, o + k, none⟩ = some (.int .u8 ((l.getD k 0 : Nat) : Int)) := by
 obtain ⟨b, o, e, hc⟩ := h (by rw [bts_length]; exact hn)
 rw [bts_length] at hc
 refine ⟨b, o, e, fun k hk => ?_⟩
 rw [hc k hk]
 simp [bts, List.getD_eq_getElem?_getD, List.getElem?_eq_getElem hk]

theorem Get_any (w : World) (x : Nat) (rest : List Nat) (A : Option Addr) (n c : Nat) (hx : x < 18446744073709551616) (hn : n = (lebN x ++ rest).length) (hm : n ≤ 1000000) (hs : Sl w A (bts (lebN x ++ rest))) :
 Calls Tryz.prog 48 #[.slice A n c] w fun e w' => e = .returned (.tuple #[.int .u64 x, .int .i64 (lebN x).length, .int .i64 0]) ∧ Below w.heap.size w w' := by
 have HL := lebF_len 9 x
 obtain ⟨b, o, rfl, hc⟩ := bt_at hs (by rw [← hn]; have : n = (lebN x).length + rest.length := (by rw [hn, List.length_append]); unfold lebN at this; omega)
 have HC := Lib.hid hc
 have HN := Lib.hid hn
 have HX := Lib.hid hx
 clear hc hn hs hx HL
 obtain ⟨K, hK⟩ : ∃ K, (lebN x).length = K := ⟨_, rfl⟩
 rw [hK]
 have HK := Lib.hid hK
 clear hK
 go_enter Tryz.func48, Tryz.ntmps48
 go_wp2_with fail
 go_loopw [5, 10] (fun u i wr => ∃ k m acc : Nat, i = .int .i64 k ∧ u = .int .u64 acc ∧ acc < 128 ^ k ∧ acc + m * 128 ^ k = x ∧ (0 < k → 1 ≤ m) ∧ (lebN x ++ rest).drop k = lebF (9 - k) m ++ rest ∧ k ≤ 9 ∧ k + (lebF (9 - k) m).length = K ∧ w = wr) (fun _ i _ => 10 - (intOf i).toNat)
 case atStart => exact ⟨0, x, 0, rfl, rfl, by decide, by omega, fun h => by omega, rfl, by omega, by rw [Nat.zero_add]; exact HK.out, rfl⟩
 case round =>
  obtain ⟨k, m, acc, rfl, rfl, h1, h2, h3, h4, h5, h6, rfl⟩ := hrel
  have hlen : k < (lebN x ++ rest).length := by
   have e := congrArg List.length h4
   have e2 : (lebF (9 - k) m ++ rest).length = (lebF (9 - k) m).length + rest.length := List.length_append
   rw [List.length_drop, e2] at e
   have := (lebF_len (9 - k) m).1
   omega
  have g1 : (k : Int) < (n : Int) := by have := HN.out; omega
  have g0 : (0 : Int) ≤ (k : Int) := by omega
  have c0 := HC.out k hlen
  have hy : (lebN x ++ rest).getD k 0 = (lebF (9 - k) m ++ rest).getD 0 0 := by
   rw [← h4, List.getD_eq_getElem?_getD, List.getD_eq_getElem?_getD, List.getElem?_drop, Nat.add_zero]
  rw [hy] at c0
  clear hlen hy
  have g4 : wrap64 ((k : Int) + 1) = (k : Int) + 1 := by unfold wrap64; omega
  have g7 : wrap64 (7 * (k : Int)) = 7 * (k : Int) := by unfold wrap64; omega
  by_cases hm2 : m < 128
  · rw [lebF_small hm2] at c0 h6
    replace c0 : w.cell? ⟨b, o + k, none⟩ = some (.int .u8 (m : Int)) := c0
    have a7 := and7_all m (by omega)
    have e9 : ((k : Int) == 9) = false ∨ (((k : Int) == 9) = true ∧ ¬ (1 : Int) < (m : Int)) := by
     by_cases h : k = 9
     · subst h
       refine .inr ⟨rfl, ?_⟩
       have e : (128 : Nat) ^ 9 = 9223372036854775808 := by decide
       have := HX.out
       rw [e] at h2
       omega
     exact .inl (by rw [beq_eq_false_iff_ne]; omega)
    have e0 : ¬ (0 : Int) < (k : Int) ∨ ((0 : Int) < (k : Int) ∧ ((m : Int) == 0) = false) := by
     by_cases h : k = 0
     · exact .inl (by omega)
     exact .inr ⟨by omega, by have := h3 (by omega); rw [beq_eq_false_iff_ne]; omega⟩
    have hm128 : m % 128 = m := Nat.mod_eq_of_lt hm2
    have ho := orx (m := m) h1 (by rw [hm128, h2]; exact HX.out)
    rw [hm128, h2, show (m : Int) % 128 = (m : Int) by omega] at ho
    rw [hm128] at a7
    have HO := Lib.hid (show k + 1 = K from h6)
    clear h1 h2 h3 h4 h6 hm128
    rcases e9 with e9 | ⟨e9, e9'⟩
    · rcases e0 with e0 | ⟨e0, e0'⟩
      · go_wp2_with fail
        go_ret3
        exact ⟨by rw [← HO.out]; first | rfl | (push_cast; rfl), Below.refl _ _⟩
      go_wp2_with fail
      go_ret3
      exact ⟨by rw [← HO.out]; first | rfl | (push_cast; rfl), Below.refl _ _⟩
    rcases e0 with e0 | ⟨e0, e0'⟩
    · exfalso
      have := eq_of_beq e9
      omega
    go_wp2_with fail
    go_ret3
    exact ⟨by rw [← HO.out]; first | rfl | (push_cast; rfl), Below.refl _ _⟩
  have hk9 : k < 9 := by
   rcases Nat.lt_or_ge k 9 with h | h
   · exact h
   exfalso
   have e : k = 9 := by omega
   subst e
   have e : (128 : Nat) ^ 9 = 9223372036854775808 := by decide
   have := HX.out
   rw [e] at h2
   omega
  obtain ⟨f, hf⟩ : ∃ f, 9 - k = f + 1 := ⟨8 - k, by omega⟩
  rw [hf] at h4 h6
  rw [hf, lebF_big hm2] at c0
  rw [lebF_big hm2] at h4 h6
  replace c0 : w.cell? ⟨b, o + k, none⟩ = some (.int .u8 (((m % 128 + 128 : Nat)) : Int)) := c0
  have a7 := and7_all (m % 128 + 128) (by omega)
  have a8 : (((m % 128 + 128) % 128 : Nat) : Int) = (m : Int) % 128 := by omega
  rw [a8] at a7
  have hle : m % 128 * 128 ^ k ≤ m * 128 ^ k := Nat.mul_le_mul_right _ (Nat.mod_le _ _)
  have ho := orx (m := m) h1 (by have := HX.out; omega)
  have e9 : ((k : Int) == 9) = false := by rw [beq_eq_false_iff_ne]; omega
  have e0 : (((m % 128 + 128 : Nat) : Int) == 0) = false := by rw [beq_eq_false_iff_ne]; omega
  have e1 : ¬ (((m % 128 + 128 : Nat)) : Int) < 128 := by omega
  have e2 : k = 0 ∨ 0 < k := by omega
  have HF := Lib.hid (And.intro h1 (And.intro h2 (And.intro h3 (And.intro h4 (And.intro h6 (And.intro hf hle))))))
  clear h1 h2 h3 h4 h6 hf hle a8
  generalize m % 128 + 128 = y at c0 a7 e0 e1
  obtain ⟨q1, q2, q3, q4, q6, q7, q8⟩ := HF.out
  have n1 : acc + m % 128 * 128 ^ k < 128 ^ (k + 1) := by
   have a : m % 128 * 128 ^ k ≤ 127 * 128 ^ k := Nat.mul_le_mul_right _ (by omega)
   rw [Nat.pow_succ]
   omega
  have n2 : acc + m % 128 * 128 ^ k + m / 128 * 128 ^ (k + 1) = x := by
   rw [Nat.pow_succ, ← q2, Nat.add_assoc, ← Nat.mul_assoc, Nat.mul_right_comm, ← Nat.add_mul]
   congr 2
   omega
  have n3 : (lebN x ++ rest).drop (k + 1) = lebF (9 - (k + 1)) (m / 128) ++ rest := by
   rw [← List.drop_drop, q4, show 9 - (k + 1) = f by omega]
   rfl
  have n4 : k + 1 + (lebF (9 - (k + 1)) (m / 128)).length = K := by
   rw [← q6, show 9 - (k + 1) = f by omega, List.length_cons]
   omega
  clear q1 q2 q3 q4 q6 q7 q8
  go_wp2_with fail
  all_goals exact ⟨⟨k + 1, m / 128, acc + m % 128 * 128 ^ k, congrArg (Value.int .i64) (by push_cast; rfl), congrArg (Value.int .u64) (by push_cast; rfl), n1, n2, fun _ => by omega, n3, by omega, n4, trivial⟩, by simp [intOf]; omega⟩
end Go.Proofs.YtikkmkomlajnfaaGreatDoor.Wf
end

section
namespace Go.Proofs.YtikkmkomlajnfaaGreatDoor.Wf
set_option maxRecDepth 100000
set_option maxHeartbeats 4000000
open Go.RowKit

theorem zig_put {z : Int} (h0 : -9223372036854775808 ≤ z) (h1 : z ≤ 9223372036854775807) : bits .xor .u64 (IntKind.u64.wrap (IntKind.u64.wrap z * 2)) (IntKind.u64.wrap (z / 9223372036854775808)) = ((zig z : Nat) : Int) := by
 simp only [IntKind.wrap_u64]
 by_cases k : z < 0
 · have e1 : z % 18446744073709551616 * 2 % 18446744073709551616 = (((2 * z + 18446744073709551616).toNat : Nat) : Int) := by omega
   have e2 : z / 9223372036854775808 % 18446744073709551616 = ((18446744073709551615 : Nat) : Int) := by omega
   have l1 : (2 * z + 18446744073709551616).toNat < 18446744073709551616 := by omega
   rw [e1, e2, ← uv_lit _ l1, ← uv_lit 18446744073709551615 (by decide), uv_xor]
   have ex : BitVec.ofNat 64 (2 * z + 18446744073709551616).toNat ^^^ BitVec.ofNat 64 18446744073709551615 = ~~~ BitVec.ofNat 64 (2 * z + 18446744073709551616).toNat := by
    rw [show BitVec.ofNat 64 18446744073709551615 = BitVec.allOnes 64 from rfl, BitVec.xor_allOnes]
   rw [ex]
   unfold uv zig
   rw [if_pos k, BitVec.toNat_not, BitVec.toNat_ofNat]
   omega
 have e1 : z % 18446744073709551616 * 2 % 18446744073709551616 = (((2 * z).toNat : Nat) : Int) := by omega
 have e2 : z / 9223372036854775808 % 18446744073709551616 = ((0 : Nat) : Int) := by omega
 have l1 : (2 * z).toNat < 18446744073709551616 := by omega
 rw [e1, e2, ← uv_lit _ l1, ← uv_lit 0 (by decide), uv_xor]
 rw [show BitVec.ofNat 64 0 = 0#64 from rfl, BitVec.xor_zero]
 unfold uv zig
 rw [if_neg k, BitVec.toNat_ofNat]
 omega
theorem xor_i64 (a b : Int) : bits .xor .i64 a b = wrap64 ((BitVec.ofInt 64 a ^^^ BitVec.ofInt 64 b).toNat : Int) := by
 have h : bits .xor .i64 a b = IntKind.i64.wrap ((BitVec.ofInt 64 a ^^^ BitVec.ofInt 64 b).toNat : Int) := rfl
 unfold wrap64
 rw [h, IntKind.wrap_i64]
theorem zig_get {z : Int} (h0 : -9223372036854775808 ≤ z) (h1 : z ≤ 9223372036854775807) : bits .xor .i64 (wrap64 (((zig z : Nat) : Int) / 2)) (wrap64 (-wrap64 (bits .and .u64 ((zig z : Nat) : Int) 1))) = z := by
 have l1 := zig_lt h0 h1
 have ea : bits .and .u64 ((zig z : Nat) : Int) 1 = ((zig z % 2 : Nat) : Int) := by
  have := uv_and1 (BitVec.ofNat 64 (zig z))
  rw [uv_lit _ l1] at this
  rw [this]
  unfold uv
  rw [BitVec.toNat_and, BitVec.toNat_ofNat, Nat.mod_eq_of_lt l1]
  show ((zig z &&& 1 : Nat) : Int) = _
  rw [Nat.and_one_is_mod]
 rw [ea, xor_i64]
 unfold zig
 by_cases k : z < 0
 · rw [if_pos k]
   have e1 : wrap64 (((-2 * z - 1).toNat : Int) / 2) = -z - 1 := by unfold wrap64; omega
   have e2 : wrap64 (-wrap64 (((-2 * z - 1).toNat % 2 : Nat) : Int)) = -1 := by unfold wrap64; omega
   rw [e1, e2, show BitVec.ofInt 64 (-1) = BitVec.allOnes 64 from rfl, BitVec.xor_allOnes, BitVec.toNat_not, BitVec.toNat_ofInt]
   unfold wrap64
   omega
 rw [if_neg k]
 have e1 : wrap64 (((2 * z).toNat : Int) / 2) = z := by unfold wrap64; omega
 have e2 : wrap64 (-wrap64 (((2 * z).toNat % 2 : Nat) : Int)) = 0 := by unfold wrap64; omega
 rw [e1, e2, show BitVec.ofInt 64 0 = 0#64 from rfl, BitVec.xor_zero, BitVec.toNat_ofInt]
 unfold wrap64
 omega

theorem PutInt_any (w : World) (z : Int) (b o c : Nat) (h0 : -9223372036854775808 ≤ z) (h1 : z ≤ 9223372036854775807) (hc : w.cell? ⟨b, o, none⟩ = some (.int .i64 z)) :
 Calls Tryz.prog 19 #[.slice (some ⟨b, o, none⟩) 1 c] w fun e w' => ∃ v, e = .returned v ∧ w'.ownsRow w.heap.size 5 1 v (lebN (zig z)).length (bts (lebN (zig z))) ∧ Below w.heap.size w w' := by
 have HC := Lib.hid hc
 have HZ := Lib.hid (zig_lt h0 h1)
 clear hc
 go_enter Tryz.func19, Tryz.ntmps19
 go_wp2_with fail
 go_loopw [3, 8] (fun u i wr => (i = .int .i64 0 ∧ wr.ownsRow w.heap.size 5 1 u 0 [] ∧ w = wr) ∨ (i = .int .i64 1 ∧ wr.ownsRow w.heap.size 5 1 u (0 + (lebN (zig z)).length) ([] ++ bts (lebN (zig z))) ∧ Below w.heap.size w wr)) (fun _ i _ => 1 - (intOf i).toNat)
 case atStart => exact .inl ⟨rfl, World.ownsRow_nil _ _ _ _, rfl⟩
 case round =>
  rcases hrel with ⟨rfl, hown, rfl⟩ | ⟨rfl, hown, hb⟩
  · have HO := Lib.hid hown
    clear hown
    have c0 : w.cell? ⟨b, o, none⟩ = some (.int .i64 z) := HC.out
    go_wp2_with fail
    rw [zig_put h0 h1]
    refine (put_any w w.heap.size u3 0 [] (zig z) HZ.out HO.out (Nat.le_refl _) (by omega)).mono ?_
    rintro e w1 ⟨v', rfl, hown, hb⟩
    have HO1 := Lib.hid hown
    have HB1 := Lib.hid hb
    clear hown hb
    go_wp2_with fail
    exact ⟨.inr ⟨rfl, HO1.out, HB1.out⟩, by simp [intOf]⟩
  have HO := Lib.hid hown
  have HB := Lib.hid hb
  clear hown hb
  rw [Nat.zero_add, List.nil_append] at HO
  obtain ⟨A', c', hu, hle, _, _, _⟩ := own_form HO.out
  subst hu
  go_wp2_with fail
  go_ret
  exact ⟨_, rfl, HO.out, HB.out⟩
theorem GetInt_any (w : World) (z : Int) (rest : List Nat) (A : Option Addr) (n c : Nat) (h0 : -9223372036854775808 ≤ z) (h1 : z ≤ 9223372036854775807) (hn : n = (lebN (zig z) ++ rest).length) (hm : n ≤ 1000000) (hs : Sl w A (bts (lebN (zig z) ++ rest))) :
 Calls Tryz.prog 50 #[.slice A n c] w fun e w' => e = .returned (.tuple #[.int .i64 z, .int .i64 (lebN (zig z)).length, .int .i64 0]) ∧ Below w.heap.size w w' := by
 have HG := Lib.hid (Get_any w (zig z) rest A n c (zig_lt h0 h1) hn hm hs)
 clear hn hm hs
 go_enter Tryz.func50, Tryz.ntmps50
 go_wp2_with fail
 refine HG.out.mono ?_
 rintro e w1 ⟨rfl, b1⟩
 have B1 := Lib.hid b1
 clear b1 HG
 have hz := zig_get h0 h1
 go_wp2_with fail
 go_ret3
 exact ⟨rfl, B1.out⟩
end Go.Proofs.YtikkmkomlajnfaaGreatDoor.Wf
end

section
namespace Go.Proofs.YtikkmkomlajnfaaGreatDoor.Wf
set_option maxRecDepth 100000
set_option maxHeartbeats 4000000
open Go.RowKit
open Go.Proofs.YtikkmkomlajnfaaGreatDoor.Op
open Go.Proofs.YtikkmkomlajnfaaGreatDoor.Jd (ints ints_length int_at int_drop sl_take contains_any goodF goodV badM good_len meas_lt2)

theorem formed_any (w : World) (l : List Int) (A : Option Addr) (n c : Nat) (hn : n = l.length) (hnc : n ≤ c) (hm : n ≤ 140737488351232) (hs : Sl w A (ints l)) :
 Calls Tryz.prog 17 #[.slice A n c] w fun e w' => e = .returned (.bool (goodV l)) ∧ w = w' := by
 have HN := Lib.hid hn
 have HM := Lib.hid hm
 have HS := Lib.hid hs
 have HNC := Lib.hid hnc
 obtain ⟨V, hV⟩ : ∃ V, goodV l = V := ⟨_, rfl⟩
 rw [hV]
 have HV := Lib.hid (show goodF l 0 n = V from hn ▸ hV)
 clear hn hs hV hm hnc
 go_enter Tryz.func17, Tryz.ntmps17
 go_wp2_with fail
 go_loopw [7] (fun i wr => ∃ k : Nat, k ≤ n ∧ i = .int .i64 k ∧ goodF l k (n - k) = V ∧ w = wr) (fun i _ => n - (intOf i).toNat)
 case atStart => exact ⟨0, Nat.zero_le _, rfl, HV.out, rfl⟩
 case round =>
  obtain ⟨k, hk, rfl, hv, rfl⟩ := hrel
  clear HV
  have HV := Lib.hid hv
  clear hv
  by_cases hlt : k < n
  · have g1 : (k : Int) < (n : Int) := by omega
    have g0 : (0 : Int) ≤ (k : Int) := by omega
    have hkl : k < l.length := by have := HN.out; omega
    have HT := Lib.hid (contains_any w (l.getD k 0) (l.take k) A k c (by rw [List.length_take]; omega) (by have := HM.out; omega) (sl_take HS.out k))
    have gkc : (k : Int) ≤ (c : Int) := by have := HNC.out; omega
    obtain ⟨b, o, rfl, hc⟩ := int_at HS.out (by omega)
    have c0 := hc k hkl
    have HSV := Lib.hid (show (if badM l k = true then false else goodF l (k + 1) (n - (k + 1))) = V by rw [← HV.out, show n - k = (n - (k + 1)) + 1 by omega]; rfl)
    have HB := Lib.hid (show badM l k = (decide (l.getD k 0 < 0) || decide (4 ≤ l.getD k 0) || decide (l.getD k 0 ∈ l.take k)) from rfl)
    clear hc hkl HV
    generalize badM l k = bm at HSV HB
    obtain ⟨D, hD⟩ : ∃ D, decide (l.getD k 0 ∈ l.take k) = D := ⟨_, rfl⟩
    rw [hD] at HB HT
    clear hD
    generalize l.getD k 0 = x at c0 HB HT
    have g4 : wrap64 ((k : Int) + 1) = (k : Int) + 1 := by have := HM.out; unfold wrap64; omega
    by_cases h1 : x < 0
    · have HV2 := Lib.hid (show false = V by rw [← HSV.out, HB.out, decide_eq_true h1]; rfl)
      clear HSV HB HT
      go_wp2_with fail
      go_ret
      exact ⟨by rw [← HV2.out] <;> first | done | rfl, rfl⟩
    by_cases h2 : 4 ≤ x
    · have HV2 := Lib.hid (show false = V by rw [← HSV.out, HB.out, decide_eq_true h2]; simp)
      have h1d : decide (x < 0) = false := by simpa using h1
      clear HSV HB HT
      go_wp2_with fail
      go_ret
      exact ⟨by rw [← HV2.out] <;> first | done | rfl, rfl⟩
    have HB2 := Lib.hid (show bm = D by rw [HB.out, decide_eq_false h1, decide_eq_false h2]; rfl)
    have h1d : decide (x < 0) = false := by simpa using h1
    have h2d : decide (4 ≤ x) = false := by simpa using h2
    clear HB
    go_wp2_with fail
    refine HT.out.mono ?_
    rintro e w2 ⟨rfl, rfl⟩
    clear HT
    cases D
    · have HV2 := Lib.hid (show goodF l (k + 1) (n - (k + 1)) = V by rw [← HSV.out, HB2.out]; rfl)
      clear HSV HB2
      go_wp2_with fail
      go_roundw
      case rel => exact ⟨k + 1, Nat.succ_le_of_lt hlt, by first | exact congrArg (Value.int .i64) (g4.trans (by push_cast; rfl)) | go_num, HV2.out, by trivial⟩
      case measure => first | exact meas_lt2 hlt | (rw [g4]; exact meas_lt2 hlt)
    have HV2 := Lib.hid (show false = V by rw [← HSV.out, HB2.out]; rfl)
    clear HSV HB2
    go_wp2_with fail
    go_ret
    exact ⟨by rw [← HV2.out] <;> first | done | rfl, rfl⟩
  obtain rfl : k = n := by omega
  have g1 : ¬ (k : Int) < (k : Int) := by omega
  have HV2 := Lib.hid (show decide ((k : Int) ≤ 4) = V by rw [← HV.out, Nat.sub_self]; unfold goodF; rw [← HN.out]; exact decide_eq_decide.2 (by omega))
  go_wp2_with fail
  go_ret
  exact ⟨by rw [← HV2.out] <;> first | done | rfl, rfl⟩


theorem all_drop (l : List InstV) (k : Nat) (h : k < l.length) : (l.drop k).all rightV = (rightV (l.getD k ins0) && (l.drop (k + 1)).all rightV) := by
 rw [List.drop_eq_getElem_cons h, List.getD_eq_getElem?_getD, List.getElem?_eq_getElem h]; rfl
/-- Right of a row -/
theorem Right_any (w : World) (l : List InstV) (A : Option Addr) (n c : Nat) (hn : n = l.length) (hm : n ≤ 140737488351232) (ht : Frm w) (hs : Sl w A (inss l)) :
 Calls Tryz.prog 13 #[.slice A n c] w fun e w' => e = .returned (.bool (l.all rightV)) ∧ Below w.heap.size w w' := by
 have HT := Lib.hid ht
 have HS := Lib.hid hs
 have HN := Lib.hid hn
 have HM := Lib.hid hm
 obtain ⟨V, hV⟩ : ∃ V, l.all rightV = V := ⟨_, rfl⟩
 rw [hV]
 have HV := Lib.hid (show (l.drop 0).all rightV = V from hV)
 clear ht hs hn hm hV
 go_enter Tryz.func13, Tryz.ntmps13
 go_wp2_with fail
 go_loopw [7] (fun i wr => ∃ k : Nat, k ≤ n ∧ i = .int .i64 k ∧ (l.drop k).all rightV = V ∧ Below w.heap.size w wr) (fun i _ => n - (intOf i).toNat)
 case atStart => exact ⟨0, Nat.zero_le _, rfl, HV.out, Below.refl _ _⟩
 case round =>
  obtain ⟨k, hk, rfl, hkr, hb⟩ := hrel
  have HB := Lib.hid hb
  clear HV
  have HV := Lib.hid hkr
  have S1 := Lib.hid (HS.out.below hb)
  clear hb hkr
  by_cases hlt : k < n
  · have g1 : (k : Int) < (n : Int) := by omega
    have g0 : (0 : Int) ≤ (k : Int) := by omega
    have hkl : k < l.length := by have := HN.out; omega
    have g4 : wrap64 ((k : Int) + 1) = (k : Int) + 1 := by have := HM.out; unfold wrap64; omega
    obtain ⟨b, o, rfl, hbl, hc⟩ := ins_at S1.out (by omega)
    obtain ⟨c0, c1, c2, c3, c4⟩ := hc k hkl
    have HSV := Lib.hid (show (rightV (l.getD k ins0) && (l.drop (k + 1)).all rightV) = V by rw [← HV.out, all_drop l k hkl])
    have HR := Lib.hid (fun w ht => right_any w (l.getD k ins0) ht)
    clear hc hkl HV
    generalize l.getD k ins0 = ii at c0 c1 c2 c3 c4 HSV HR
    obtain ⟨r, hr⟩ : ∃ r, rightV ii = r := ⟨_, rfl⟩
    rw [hr] at HR HSV
    clear hr
    obtain ⟨op, d, a, bb, m⟩ := ii
    unfold insVal at HR
    dsimp only at HR c0 c1 c2 c3 c4
    have O1 := Lib.hid (Ob.fresh wr 59 [.int .i64 op, .int .i64 d, .int .i64 a, .int .i64 bb, .int .i64 m])
    have B1 := Lib.hid (below_alloc HB.out (.cells #[.int .i64 op, .int .i64 d, .int .i64 a, .int .i64 bb, .int .i64 m] 59))
    clear HB hk
    go_upto_region 4 with fail
    clear c0 c1 c2 c3 c4
    generalize wr.alloc (.cells #[.int .i64 op, .int .i64 d, .int .i64 a, .int .i64 bb, .int .i64 m] 59) = w2 at O1 B1 ⊢
    generalize wr.heap.size = q at O1 ⊢
    have i0 := O1.out.c0
    have i1 := O1.out.c1
    have i2 := O1.out.c2
    have i3 := O1.out.c3
    have i4 := O1.out.c4
    go_wp2_with fail
    refine (HR.out w2 (HT.out.below B1.out)).mono ?_
    rintro e w3 ⟨rfl, b3⟩
    have B3 := Lib.hid (B1.out.trans (b3.mono B1.out.size))
    clear b3
    cases r
    · have HV2 := Lib.hid (show false = V by rw [← HSV.out]; rfl)
      go_wp2_with fail
      go_ret
      exact ⟨by rw [← HV2.out] <;> first | done | rfl, B3.out⟩
    have HV2 := Lib.hid (show (l.drop (k + 1)).all rightV = V by rw [← HSV.out]; rfl)
    go_wp2_with fail
    exact ⟨⟨k + 1, Nat.succ_le_of_lt hlt, by first | exact congrArg (Value.int .i64) (g4.trans (by push_cast; rfl)) | go_num, HV2.out, B3.out⟩, by first | exact meas_lt2 hlt | (rw [g4]; exact meas_lt2 hlt)⟩
  obtain rfl : k = n := by omega
  have g1 : ¬ (k : Int) < (k : Int) := by omega
  have HV2 := Lib.hid (show true = V by rw [← HV.out, List.drop_eq_nil_of_le (by have := HN.out; omega)]; rfl)
  go_wp2_with fail
  go_ret
  exact ⟨by rw [← HV2.out] <;> first | done | rfl, HB.out⟩

/-- the name of an operation -/
theorem Name_any (w : World) (h : Int) (ht : Frm w) :
 Calls Tryz.prog 36 #[.int .i64 h] w fun e w' => e = .returned (.string (nmO (oI h))) ∧ Below w.heap.size w w' := by
 have HOF := Lib.hid (of_any w h ht)
 clear ht
 unfold fmVal at HOF
 generalize nmO (oI h) = nm at HOF ⊢
 generalize fdO (oI h) = fd at HOF
 generalize decide (oI h < 23) = ok at HOF
 go_enter Tryz.func36, Tryz.ntmps36
 go_wp2_with fail
 refine HOF.out.mono ?_
 rintro e w1 ⟨rfl, b1⟩
 have B1 := Lib.hid (below_alloc b1 (.cells #[.string nm, .string fd] 158))
 have O1 := Lib.hid (Ob.fresh w1 158 [.string nm, .string fd])
 clear b1
 go_upto_region 2 with fail
 generalize w1.alloc (.cells #[.string nm, .string fd] 158) = w2 at O1 B1 ⊢
 generalize w1.heap.size = q at O1 ⊢
 have i0 := O1.out.c0
 go_wp2_with fail
 go_ret
 exact ⟨rfl, B1.out⟩

theorem wp_index_agg {P : Program} {o : Oper} {a : Act} {w : World} {K : Act → World → Prop} {Q : Exit → Act → World → Prop} (ty : TypeId) (x i : Operand) (ho : o.op = .index ty x i) (v : Value)
 (hr : (Instr.index ty (a.eval x) (a.eval i)).run P w = .ok v w) (h : K (a.put o.dst v) w) : o.wp P a w K Q := by
 unfold Oper.wp execOp
 simp only [ho, hr, Sem.run_bind, Sem.run_pure, Result.andThen_ok]
 exact h
theorem wpList_index_agg {P : Program} {ops : Array Oper} {rest : List Oper} {o : Oper} {a : Act} {w : World} {Q : Exit → Act → World → Prop} (hgd : o.guard = none) (ty : TypeId) (x i : Operand) (ho : o.op = .index ty x i) (v : Value)
 (hr : (Instr.index ty (a.eval x) (a.eval i)).run P w = .ok v w) (h : wpList P ops Q rest (a.put o.dst v) w) : wpList P ops Q (o :: rest) a w :=
 wpList_plain hgd fun _ hK => wp_index_agg ty x i ho v hr (hK _ _ h)
theorem bs_ne {a b : ByteArray} (h : a ≠ b) : (a.toList == b.toList) = false := by
 rw [ByteArray.toList_eq, ByteArray.toList_eq]
 simp only [beq_eq_false_iff_ne, ne_eq]
 intro he
 exact h (ByteArray.ext (Array.toList_inj.1 he))
theorem run_index_frm (w : World) (k : Nat) (hk : k < 23) : (Instr.index 167 (.agg frmL.toArray) (.int .i64 k)).run Tryz.prog w = .ok (fmVal k) w := by
 rcases y_cases hk with rfl | rfl | rfl | rfl | rfl | rfl | rfl | rfl | rfl | rfl | rfl | rfl | rfl | rfl | rfl | rfl | rfl | rfl | rfl | rfl | rfl | rfl | rfl <;> kernel_rfl
theorem nm_apart : ∀ i, i < 23 → ∀ j, j < 23 → nmO i = nmO j → i = j := by decide +kernel

/-- the operation of a name -/
theorem Find_any (w : World) (y : Nat) (hy : y < 23) (ht : Frm w) :
 Calls Tryz.prog 45 #[.string (nmO y)] w fun e w' => e = .returned (.tuple #[.int .i64 y, .bool true]) ∧ Below w.heap.size w w' := by
 obtain ⟨s, hs⟩ : ∃ s, nmO y = s := ⟨_, rfl⟩
 have HS := Lib.hid hs
 have HY := Lib.hid hy
 rw [hs]
 obtain ⟨tt, fr, hg⟩ := ht
 have HIX := Lib.hid (fun (w : World) (k : Nat) (hk : k < 23) => run_index_frm w k hk)
 have hsz : (Tryz.prog.info? 167).map (·.size) = some frmL.toArray.size := by kernel_rfl
 unfold fmVal at HIX
 clear hs hy
 generalize frmL.toArray = arr at hg HIX hsz
 go_enter Tryz.func45, Tryz.ntmps45
 go_wp2_with
  (refine wpList_load_row rfl 167 (.global 0) rfl 0 rfl tt arr fr (.array 23 158) hg Tryz.underlying167 rfl hsz ?_
   clear hg)
 go_loopw [7] (fun i wr => ∃ k : Nat, k ≤ y ∧ i = .int .i64 k ∧ Below w.heap.size w wr) (fun i _ => 23 - (intOf i).toNat)
 case atStart => exact ⟨0, Nat.zero_le _, rfl, Below.refl _ _⟩
 case round =>
  obtain ⟨k, hk, rfl, hb⟩ := hrel
  have BB := Lib.hid hb
  clear hb
  have hlt : k < 23 := by have := HY.out; omega
  have g1 : (k : Int) < 23 := by omega
  have hix := HIX.out wr k hlt
  by_cases he : k = y
  · subst he
    rw [HS.out] at hix
    generalize fdO k = t0 at hix
    go_wp2_with
     (refine wpList_index_agg rfl 167 (.tmp 6) (.tmp 7) rfl _ hix ?_)
    go_ret2
    exact ⟨rfl, below_alloc BB.out _⟩
  have hne : nmO k ≠ s := fun e => he (nm_apart k hlt y HY.out (by rw [e, HS.out]))
  generalize nmO k = nm at hix hne
  generalize fdO k = t0 at hix
  have he' := bs_ne hne
  go_wp2_with
   (refine wpList_index_agg rfl 167 (.tmp 6) (.tmp 7) rfl _ hix ?_)
  refine ⟨⟨k + 1, by omega, by go_num, below_alloc BB.out _⟩, by simp [intOf]; omega⟩
end Go.Proofs.YtikkmkomlajnfaaGreatDoor.Wf
end
