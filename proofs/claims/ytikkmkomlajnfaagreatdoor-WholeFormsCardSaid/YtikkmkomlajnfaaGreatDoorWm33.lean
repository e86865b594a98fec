/-
  An instruction's text, and what it reads as. Plain.
  The library: strings.Builder's copyCheck and WriteString. Conditions: those of each theorem.
  Layer 3: lines.order, reg, line. Conditions: those of each theorem.
  Layer 3: lines.line. Conditions: those of each theorem.
-/
import Derived.Test.YtikkmkomlajnfaaGreatDoorWm32
import Derived.Test.YtikkmkomlajnfaaGreatDoorWm03
import Derived.Test.YtikkmkomlajnfaaGreatDoorChecked
import Derived.Test.YtikkmkomlajnfaaGreatDoorWm30
import Derived.Lib.OthersKept
import Derived.Test.YtikkmkomlajnfaaGreatDoorWm01
set_option linter.unusedVariables false
set_option linter.unusedSimpArgs false
section
namespace Go.Proofs.YtikkmkomlajnfaaGreatDoor.Wf
set_option maxHeartbeats 8000000
open Go.Lib
open Go.Proofs.YtikkmkomlajnfaaGreatDoor.Op (InstV rightV right_is RightI nmO oI oI_nat oI_out o_cases y_cases rsk rst rs0 RSt bys fdO regB wiB)

/-- what is 0 in an instruction that is right -/
structure ZeroI (i : InstV) : Prop where
 a : (i.op = 0 ∨ i.op = 11 ∨ i.op = 13 ∨ i.op = 14 ∨ i.op = 15 ∨ i.op = 21) → i.a = 0
 d : (i.op = 12 ∨ i.op = 21 ∨ i.op = 22) → i.d = 0
 b : (13 ≤ i.op ∧ i.op ≤ 15 ∨ 20 ≤ i.op) → i.b = 0
 m : (i.op ≤ 12 ∨ (16 ≤ i.op ∧ i.op ≤ 19)) → i.b ≠ 8 → i.m = 0
 m2 : (i.op = 15 ∨ i.op = 22) → i.m = 0
theorem zero_is {i : InstV} (h : rightV i = true) : ZeroI i := by
 obtain ⟨op, d, a, b, m⟩ := i
 unfold rightV at h
 simp only [Bool.and_eq_true, decide_eq_true_eq] at h
 obtain ⟨h1, h2⟩ := h
 rcases o_cases op with ⟨y, rfl, hy⟩ | h0 | ⟨_, h0⟩
 · rw [oI_nat hy] at h2
   rcases y_cases hy with rfl | rfl | rfl | rfl | rfl | rfl | rfl | rfl | rfl | rfl | rfl | rfl | rfl | rfl | rfl | rfl | rfl | rfl | rfl | rfl | rfl | rfl | rfl
   all_goals
    simp only [rsk, bys, fdO, ByteArray.size, List.size_toArray, List.length_cons, List.length_nil, List.map_cons, List.map_nil, List.take_succ_cons, List.take_zero, List.foldl_cons, List.foldl_nil, rs0, rst] at h2
    simp [RSt.good, regB, wiB] at h2
    constructor <;> dsimp only <;> first | omega | (intro _; omega) | (split at h2 <;> simp at h2 <;> first | omega | (intro _; omega) | (intro _ _; omega))
 · rw [oI_out (.inl h0)] at h1; omega
 rw [oI_out (.inr h0)] at h1; omega

/-- the order in which an operation's fields are written -/
def ordO (op : Int) : List UInt8 :=
 if op = 0 ∨ op = 11 then [100, 115] else if op = 12 then [97, 115] else if op = 13 ∨ op = 14 then [100, 110] else if op = 15 then [106] else if 16 ≤ op ∧ op ≤ 19 then [97, 115, 106]
 else if op = 20 then [97, 106, 110] else if op = 21 then [110] else if op = 22 then [97] else [100, 97, 115]
/-- a register's word -/
def regW (n : Int) : List UInt8 := 114 :: itoa n
/-- a field's word -/
def wordO (i : InstV) (f : UInt8) : List UInt8 :=
 if f = 100 then regW i.d else if f = 97 then regW i.a else if f = 106 then itoa i.d else if f = 115 ∧ i.b ≠ 8 then regW i.b else itoa i.m
def wordsO (i : InstV) : List (List UInt8) := (ordO i.op).map (wordO i)
def nameO (i : InstV) : List UInt8 := (nmO (oI i.op)).data.toList
def lineO (i : InstV) : List UInt8 := join (nameO i :: wordsO i) [32]
def printO (l : List InstV) : List UInt8 := l.flatMap fun i => lineO i ++ [10]
/-- a field is read -/
def putF (i : InstV) (f : UInt8) (j : InstV) : InstV :=
 if f = 100 then { j with d := i.d } else if f = 97 then { j with a := i.a } else if f = 106 then { j with d := i.d } else if f = 115 then (if i.b ≠ 8 then { j with b := i.b } else { j with b := 8, m := i.m }) else { j with m := i.m }
/-- the first k fields are read -/
def readK (i : InstV) (k : Nat) : InstV := ((ordO i.op).take k).foldl (fun j f => putF i f j) ⟨i.op, 0, 0, 0, 0⟩
theorem readK_succ {i : InstV} {k : Nat} (h : k < (ordO i.op).length) : readK i (k + 1) = putF i ((ordO i.op).getD k 0) (readK i k) := by
 unfold readK
 rw [List.take_succ_eq_append_getElem h, List.foldl_append, List.getD_eq_getElem?_getD, List.getElem?_eq_getElem h]
 rfl
theorem op_class {op : Int} (h0 : 0 ≤ op) (h1 : op < 23) : (op = 0 ∨ op = 11) ∨ op = 12 ∨ (op = 13 ∨ op = 14) ∨ op = 15 ∨ (16 ≤ op ∧ op ≤ 19) ∨ op = 20 ∨ op = 21 ∨ op = 22 ∨ (1 ≤ op ∧ op ≤ 10) := by omega
theorem ord_1 {op : Int} (h : op = 0 ∨ op = 11) : ordO op = [100, 115] := by unfold ordO; rw [if_pos h]
theorem ord_2 {op : Int} (h : op = 12) : ordO op = [97, 115] := by unfold ordO; rw [if_neg (by omega), if_pos h]
theorem ord_3 {op : Int} (h : op = 13 ∨ op = 14) : ordO op = [100, 110] := by unfold ordO; rw [if_neg (by omega), if_neg (by omega), if_pos h]
theorem ord_4 {op : Int} (h : op = 15) : ordO op = [106] := by unfold ordO; rw [if_neg (by omega), if_neg (by omega), if_neg (by omega), if_pos h]
theorem ord_5 {op : Int} (h : 16 ≤ op ∧ op ≤ 19) : ordO op = [97, 115, 106] := by unfold ordO; rw [if_neg (by omega), if_neg (by omega), if_neg (by omega), if_neg (by omega), if_pos h]
theorem ord_6 {op : Int} (h : op = 20) : ordO op = [97, 106, 110] := by unfold ordO; rw [if_neg (by omega), if_neg (by omega), if_neg (by omega), if_neg (by omega), if_neg (by omega), if_pos h]
theorem ord_7 {op : Int} (h : op = 21) : ordO op = [110] := by unfold ordO; rw [if_neg (by omega), if_neg (by omega), if_neg (by omega), if_neg (by omega), if_neg (by omega), if_neg (by omega), if_pos h]
theorem ord_8 {op : Int} (h : op = 22) : ordO op = [97] := by unfold ordO; rw [if_neg (by omega), if_neg (by omega), if_neg (by omega), if_neg (by omega), if_neg (by omega), if_neg (by omega), if_neg (by omega), if_pos h]
theorem ord_9 {op : Int} (h : 1 ≤ op ∧ op ≤ 10) : ordO op = [100, 97, 115] := by unfold ordO; rw [if_neg (by omega), if_neg (by omega), if_neg (by omega), if_neg (by omega), if_neg (by omega), if_neg (by omega), if_neg (by omega), if_neg (by omega)]
/-- all fields read: the instruction -/
theorem read_all {i : InstV} (h : rightV i = true) : readK i (ordO i.op).length = i := by
 have r := right_is h
 have z := zero_is h
 obtain ⟨op, d, a, b, m⟩ := i
 have za := z.a
 have zd := z.d
 have zb := z.b
 have zm := z.m
 have zm2 := z.m2
 have rb := r.b
 dsimp only at za zd zb zm zm2 rb
 unfold readK
 dsimp only
 rw [List.take_length]
 have hb8 : b = 8 ∨ b ≠ 8 := by omega
 rcases op_class r.o0 r.o1 with c | c | c | c | c | c | c | c | c <;> dsimp only at c
 · rw [ord_1 c]
   rcases hb8 with hb | hb
   · subst hb; rw [za (by omega)]; rfl
   rw [za (by omega), zm (by omega) hb]; simp [putF, hb]
 · rw [ord_2 c]
   rcases hb8 with hb | hb
   · subst hb; rw [zd (by omega)]; rfl
   rw [zd (by omega), zm (by omega) hb]; simp [putF, hb]
 · rw [ord_3 c, za (by omega), zb (by omega)]; rfl
 · rw [ord_4 c, za (by omega), zb (by omega), zm2 (by omega)]; rfl
 · rw [ord_5 c]
   rcases hb8 with hb | hb
   · subst hb; rfl
   rw [zm (by omega) hb]; simp [putF, hb]
 · rw [ord_6 c, zb (by omega)]; rfl
 · rw [ord_7 c, za (by omega), zd (by omega), zb (by omega)]; rfl
 · rw [ord_8 c, zd (by omega), zb (by omega), zm2 (by omega)]; rfl
 rw [ord_9 c]
 rcases hb8 with hb | hb
 · subst hb; rfl
 rw [zm (by omega) hb]; simp [putF, hb]

/-! the words hold no blank and no line's end -/
theorem dg_no (u : Nat) (c : UInt8) (h : c.toNat < 48) : c ∉ decDigits u := fun hc => by
 have := (dg_all u c hc).1
 omega
theorem itoa_no (n : Int) (c : UInt8) (h : c.toNat < 45) : c ∉ itoa n := by
 unfold itoa
 split
 · intro hc
   rcases List.mem_cons.1 hc with rfl | hc
   · exact absurd h (by decide)
   exact dg_no _ c (by omega) hc
 exact dg_no _ c (by omega)
theorem regW_no (n : Int) (c : UInt8) (h : c.toNat < 45) : c ∉ regW n := fun hc => by
 rcases List.mem_cons.1 hc with rfl | hc
 · exact absurd h (by decide)
 exact itoa_no n c h hc
theorem word_no (i : InstV) (f c : UInt8) (h : c.toNat < 45) : c ∉ wordO i f := by
 unfold wordO
 repeat' split
 all_goals first | exact regW_no _ c h | exact itoa_no _ c h
theorem name_no (i : InstV) (c : UInt8) (h : c.toNat < 45) : c ∉ nameO i := by
 unfold nameO
 have key : ∀ y, y < 24 → ∀ x ∈ (nmO y).data.toList, 45 ≤ x.toNat := by decide
 intro hc
 have := key (oI i.op) (by have := Op.oI_le i.op; omega) c hc
 omega
theorem join_no (c s : UInt8) (hs : c ≠ s) : ∀ (ws : List (List UInt8)) (x : List UInt8), c ∉ x → (∀ w ∈ ws, c ∉ w) → c ∉ join (x :: ws) [s]
 | [], x, hx, _ => by rw [join_one]; exact hx
 | y :: r, x, hx, h => by
   rw [join_two]
   intro hc
   rcases List.mem_append.1 hc with hc | hc
   · exact hx hc
   rcases List.mem_cons.1 hc with hc | hc
   · exact hs hc
   exact join_no c s hs r y (h y List.mem_cons_self) (fun w hw => h w (List.mem_cons_of_mem _ hw)) hc
theorem line_no (i : InstV) : (10 : UInt8) ∉ lineO i := by
 refine join_no 10 32 (by decide) _ _ (name_no i 10 (by decide)) fun w hw => ?_
 obtain ⟨f, _, rfl⟩ := List.mem_map.1 hw
 exact word_no i f 10 (by decide)
theorem line_split (i : InstV) : splitK [32] 0 (ordO i.op).length (lineO i) = nameO i :: wordsO i := by
 have := split_join 32 (wordsO i) (nameO i) (name_no i 32 (by decide)) fun w hw => by
  obtain ⟨f, _, rfl⟩ := List.mem_map.1 hw
  exact word_no i f 32 (by decide)
 unfold wordsO at this
 rw [List.length_map] at this
 exact this
theorem line_count (i : InstV) : count (lineO i) [32] = (ordO i.op).length := by
 have hlen : (wordsO i).length ≤ (lineO i).length := by
  have e : lineO i = nameO i ++ joinTail [32] (wordsO i) := join_cons _ _ _
  rw [e, List.length_append, joinTail_length]
  simp
  omega
 have := count_join 32 (wordsO i) (nameO i) ((lineO i).length + 1) (name_no i 32 (by decide)) (fun w hw => by
  obtain ⟨f, _, rfl⟩ := List.mem_map.1 hw
  exact word_no i f 32 (by decide)) (by omega)
 unfold wordsO at this
 rw [List.length_map] at this
 exact this
theorem print_cons (i : InstV) (l : List InstV) : printO (i :: l) = lineO i ++ 10 :: printO l := by
 unfold printO
 rw [List.flatMap_cons, List.append_assoc]
 rfl
theorem print_cut (i : InstV) (l : List InstV) : cut (printO (i :: l)) [10] = (lineO i, printO l, true) := by
 rw [print_cons]
 exact cut_line 10 _ _ (line_no i)

/-! what a word reads as -/
theorem reg_digit {n : Int} (h0 : 0 ≤ n) (h1 : n < 8) : itoa n = [UInt8.ofNat (48 + n.toNat)] := by
 unfold itoa
 rw [if_neg (by omega), decDigits, dif_pos (by omega)]
theorem reg_syntax {n : Int} (h0 : 0 ≤ n) (h1 : n < 8) : parseIntB 64 (regW n) = Lib.NumEnd.syntax := by
 have : n = 0 ∨ n = 1 ∨ n = 2 ∨ n = 3 ∨ n = 4 ∨ n = 5 ∨ n = 6 ∨ n = 7 := by omega
 unfold regW
 rw [reg_digit h0 h1]
 rcases this with rfl | rfl | rfl | rfl | rfl | rfl | rfl | rfl <;> rfl
end Go.Proofs.YtikkmkomlajnfaaGreatDoor.Wf
end

section
namespace Go.Proofs.YtikkmkomlajnfaaGreatDoor.Wf
set_option maxRecDepth 100000
set_option maxHeartbeats 2000000
open Go.RowKit

theorem sizeBuilder : (Tryz.prog.info? 63).map (·.size) = some 2 := by kernel_rfl
theorem liesBuilder : liesAt Tryz.prog Tryz.prog.depth 63 (2 / Tryz.prog.cellsOf 63) 0 63 1 = true := by kernel_rfl
theorem infoByte : (Tryz.prog.info? 5).map (fun i => (i.zero, i.size, i.bytes)) = some (some (.int .u8 0), 1, 1) := by kernel_rfl

theorem copyCheck_used (b : Nat) (w : World) (h0 : w.cell? ⟨b, 0, none⟩ = some (.pointer (some ⟨b, 0, none⟩))) :
 Calls Tryz.prog 35 #[.pointer (some ⟨b, 0, none⟩)] w fun e w' => e = .returned (.tuple #[]) ∧ w' = w := by
 obtain ⟨j, hj, _⟩ := Option.map_eq_some_iff.1 sizeBuilder
 go_enter Tryz.func35, Tryz.ntmps35
 go_wp2
 rw [Lib.run_neq_ptr_same w _ Tryz.underlying61 hj]
 go_wp2
 go_end0
 exact ⟨rfl, rfl⟩

theorem copyCheck_fresh (b : Nat) (w : World) (h0 : w.cell? ⟨b, 0, none⟩ = some (.pointer none)) (hsh : w.shape? b = some (63, 2)) (hfz : w.frozen? ⟨b, 0, none⟩ = false) :
 Calls Tryz.prog 35 #[.pointer (some ⟨b, 0, none⟩)] w fun e w' => e = .returned (.tuple #[]) ∧ w' = w.setCell ⟨b, 0, none⟩ (.pointer (some ⟨b, 0, none⟩)) := by
 obtain ⟨j, hj, hjs⟩ := Option.map_eq_some_iff.1 sizeBuilder
 go_enter Tryz.func35, Tryz.ntmps35
 go_wp2
 rw [Lib.run_to_unsafe w ⟨b, 0, none⟩ Tryz.underlying61 Tryz.underlying163 hj (by rw [hjs]; decide) hsh (Nat.zero_lt_succ 1)]
 simp only [Result.andThen]
 rw [Oper.upon_value]
 go_wp2
 rw [run_callFunc_extern Tryz.func66 (by kernel_rfl) (by kernel_rfl) (by kernel_rfl) (e := Extern.AbiNoEscape.same) (by kernel_rfl)]
 rw [Lib.run_noEscape]
 simp only [Result.andThen]
 rw [Oper.upon_value]
 go_wp2
 rw [Lib.run_from_unsafe w ⟨b, 0, none⟩ Tryz.underlying163 Tryz.underlying61 hj hsh liesBuilder]
 simp only [Result.andThen]
 rw [Oper.upon_value]
 go_wp2
 go_end0
 exact ⟨rfl, rfl⟩

theorem copyCheck_any (B b : Nat) (bs : List Value) (w : World) (h : Lib.IsBuilder 63 5 B b bs w) :
 Calls Tryz.prog 35 #[.pointer (some ⟨b, 0, none⟩)] w fun e w' => e = .returned (.tuple #[]) ∧ (Lib.BuilderAt 63 5 B b (.pointer (some ⟨b, 0, none⟩)) bs w' ∧ Below B w w') := by
 rcases h with h | h
 · refine (copyCheck_fresh b w h.cell0 h.shape h.frozen0).mono ?_
   rintro e w' ⟨rfl, rfl⟩
   exact ⟨rfl, h.used _, (Below.refl B w).setCell (p := ⟨b, 0, none⟩) h.1 _⟩
 refine (copyCheck_used b w h.cell0).mono ?_
 rintro e w' ⟨rfl, rfl⟩
 exact ⟨rfl, h, Below.refl B _⟩

theorem WriteString_any (B b : Nat) (bs : List Value) (s : ByteArray) (w : World) (h : Lib.IsBuilder 63 5 B b bs w) (hlen : bs.length + s.size ≤ 140737488355328) (hBw : B ≤ w.heap.size) :
 Calls Tryz.prog 14 #[.pointer (some ⟨b, 0, none⟩), .string s] w fun e w' => e = .returned (.tuple #[.int .i64 s.size, .nilIface]) ∧ (Lib.BuilderAt 63 5 B b (.pointer (some ⟨b, 0, none⟩)) (bs ++ Lib.strCells s) w' ∧ Below B w w') := by
 obtain ⟨i0, hi, hz0, hz1, hz2⟩ := info_parts infoByte
 go_enter Tryz.func14, Tryz.ntmps14
 go_wp2_with fail
 refine (copyCheck_any B b bs _ h).mono ?_
 rintro e w1 ⟨rfl, h1, hb1⟩
 obtain ⟨hB, v, hbk, hown, hne⟩ := h1
 have c0 : w1.cell? ⟨b, 0, none⟩ = some (.pointer (some ⟨b, 0, none⟩)) := by rw [Lib.cell_of_heap hbk]; rfl
 have c1 : w1.cell? ⟨b, 1, none⟩ = some v := by rw [Lib.cell_of_heap hbk]; rfl
 go_wp2_with (at_builtin; refine Lib.wpList_append_own_string _ rfl _ _ 37 9 rfl B 5 i0 Tryz.underlying37 Tryz.underlying9 hi hz0 hz1 hz2 _ _ _ rfl hown s rfl ?c3 ?c4 ?c5 ?_)
 case c3 => unfold maxLen; omega
 case c4 => omega
 case c5 => have := hb1.size; omega
 intro v' w2 hown' hgrow _
 have hlt : b < w1.heap.size := by
  rcases Nat.lt_or_ge b w1.heap.size with h' | h'
  · exact h'
  simp [Array.getElem?_eq_none h'] at hbk
 have hb2 : w2.heap[b]? = some (.cells #[.pointer (some ⟨b, 0, none⟩), v] 63 (0, 0)) := by
  rw [hgrow.block b hlt (fun e => hne e.symm)]
  exact hbk
 have d0 : w2.cell? ⟨b, 0, none⟩ = some (.pointer (some ⟨b, 0, none⟩)) := by rw [Lib.cell_of_heap hb2]; rfl
 have d1 : w2.cell? ⟨b, 1, none⟩ = some v := by rw [Lib.cell_of_heap hb2]; rfl
 have f1 : w2.frozen? ⟨b, 1, none⟩ = false := Lib.frozen_of_heap hb2 1
 obtain ⟨ao, n', cap, rfl⟩ : ∃ ao n' cap, v' = .slice ao n' cap := by
  rcases hown'.2 with ⟨hv, _⟩ | ⟨g, cap, cur, hv, _⟩
  · exact ⟨_, _, _, hv⟩
  exact ⟨_, _, _, hv⟩
 go_wp2
 go_ret2
 refine ⟨rfl, ?_, ?_⟩
 · exact Lib.BuilderAt.put (T := 63) (e := 5) hB hb2 (bs' := bs ++ Lib.strCells s) (by simpa [Lib.strCells_length] using hown') (by decide)
 exact (hb1.grown hgrow (by have := hb1.size; omega) (fun k hk => (hown.lt k hk).1)).setCell (p := ⟨b, 1, none⟩) hB _
end Go.Proofs.YtikkmkomlajnfaaGreatDoor.Wf
end

section
namespace Go.Proofs.YtikkmkomlajnfaaGreatDoor.Wf
set_option maxRecDepth 100000
set_option maxHeartbeats 8000000
open Go.RowKit
open Go.Lib (itoa join)
open Go.Proofs.YtikkmkomlajnfaaGreatDoor.Op (InstV insc insVal rightV right_is RightI Frm insc_one nmO oI oI_nat)

/-- bytes as a string -/
def sB (l : List UInt8) : ByteArray := ⟨l.toArray⟩
theorem sB_size (l : List UInt8) : (sB l).size = l.length := by simp [sB, ByteArray.size]
theorem sB_get (l : List UInt8) (k : Nat) (h : k < (sB l).size) : (sB l)[k]'h = l.getD k 0 := by
 have hk : k < l.length := by rw [← sB_size]; exact h
 rw [List.getD_eq_getElem?_getD, List.getElem?_eq_getElem hk]
 simp [sB]
 rfl
theorem sB_list (l : List UInt8) : (sB l).data.toList = l := by simp [sB]
theorem sB_app (a b : List UInt8) : sB a ++ sB b = sB (a ++ b) := by
 unfold sB
 rw [ByteArray.mk_append_mk]
theorem dg_len (k u : Nat) : u < 10 ^ (k + 1) → (Lib.decDigits u).length ≤ k + 1 := by
 induction k generalizing u with
 | zero => intro h; rw [Lib.decDigits, dif_pos (by omega)]; exact Nat.le_refl _
 | succ k ih =>
   intro h
   by_cases c : u < 10
   · rw [Lib.decDigits, dif_pos c]; simp
   rw [Lib.decDigits, dif_neg c, List.length_append]
   have := ih (u / 10) (by rw [Nat.pow_succ] at h; omega)
   simp only [List.length_cons, List.length_nil]
   omega
theorem itoa_len {n : Int} (h0 : -9223372036854775808 ≤ n) (h1 : n ≤ 9223372036854775807) : (itoa n).length ≤ 20 := by
 have e : (10 : Nat) ^ 19 = 10000000000000000000 := by decide
 unfold itoa
 split
 · have := dg_len 18 n.natAbs (by rw [e]; omega)
   rw [List.length_cons]
   omega
 have := dg_len 18 n.toNat (by rw [e]; omega)
 omega
theorem below_more (w : World) (k : Nat) (os : Array Obj) : Below w.heap.size w (Sort.grow (w.drewN k) os) :=
 ⟨rfl, rfl, rfl, by show w.heap.size ≤ (w.heap ++ os).size; rw [Array.size_append]; omega, fun j hj => by
  show (w.heap ++ os)[j]? = _
  rw [Array.getElem?_append_left hj]⟩
/-- what the library's functions read -/
def Pw (w : World) : Prop := ∃ t fr, w.heap[2]? = some (.cells (Lib.pow10Tab.map fun z => Value.int .u64 z).toArray t fr)
theorem Pw.is {w : World} (h : Pw w) : Lib.TabIs Tryz.prog w "internal/strconv.uint64pow10" .u64 Lib.pow10Tab := by
 obtain ⟨t, fr, h⟩ := h
 have hg : Tryz.prog.globalNamed "internal/strconv.uint64pow10" = some 2 := by kernel_rfl
 unfold Lib.TabIs World.var?
 rw [hg]
 simp [h]
structure Lb (w : World) : Prop where
 f : Frm w
 p : Pw w
 e : ∃ tp p, w.cell? ⟨3, 0, none⟩ = some (.iface tp p)
 m : ∃ m, w.cell? ⟨1, 0, none⟩ = some (.int .i64 m)
theorem Lb.below {w w' : World} (h : Lb w) (hb : Below w.heap.size w w') : Lb w' := by
 obtain ⟨f, ⟨t, fr, p⟩, ⟨tp, pp, e⟩, ⟨m, hm⟩⟩ := h
 have hp : 2 < w.heap.size := (Array.getElem?_eq_some_iff.1 p).1
 refine ⟨f.below hb, ⟨t, fr, (hb.block _ hp).trans p⟩, ⟨tp, pp, ?_⟩, ⟨m, ?_⟩⟩
 · exact (hb.cell (cell_lt e)).trans e
 exact (hb.cell (cell_lt hm)).trans hm

theorem order_any (w : World) (op : Int) (h0 : 0 ≤ op) (h1 : op < 23) :
 Calls Tryz.prog 37 #[.int .i64 op] w fun e w' => e = .returned (.string (sB (ordO op))) ∧ w = w' := by
 have : op = 0 ∨ op = 1 ∨ op = 2 ∨ op = 3 ∨ op = 4 ∨ op = 5 ∨ op = 6 ∨ op = 7 ∨ op = 8 ∨ op = 9 ∨ op = 10 ∨ op = 11 ∨ op = 12 ∨ op = 13 ∨ op = 14 ∨ op = 15 ∨ op = 16 ∨ op = 17 ∨ op = 18 ∨ op = 19 ∨ op = 20 ∨ op = 21 ∨ op = 22 := by omega
 clear h0 h1
 rcases this with rfl | rfl | rfl | rfl | rfl | rfl | rfl | rfl | rfl | rfl | rfl | rfl | rfl | rfl | rfl | rfl | rfl | rfl | rfl | rfl | rfl | rfl | rfl
 all_goals
  go_enter Tryz.func37, Tryz.ntmps37
  go_wp2_with fail
  go_ret
  exact ⟨rfl, rfl⟩

theorem reg_any (w : World) (n : Int) (h0 : 0 ≤ n) (h1 : n ≤ 1000) (hp : Lb w) :
 Calls Tryz.prog 38 #[.int .i64 n] w fun e w' => e = .returned (.string (sB (regW n))) ∧ Below w.heap.size w w' := by
 have HI := Lib.hid (Tryz.strconv_Itoa n (by omega) (by omega) w hp.p.is)
 have HE := Lib.hid (show (⟨#[114]⟩ : ByteArray) ++ ⟨(itoa n).toArray⟩ = sB (regW n) from sB_app [114] (itoa n))
 have hlen := itoa_len (n := n) (by omega) (by omega)
 generalize itoa n = L at HI HE hlen
 have hs : ¬ 9223372036854775807 < 1 + L.length := by omega
 clear hp
 go_enter Tryz.func38, Tryz.ntmps38
 go_wp2_with fail
 refine HI.out.mono ?_
 rintro e w1 ⟨rfl, k, os, rfl⟩
 have B1 := Lib.hid (below_more w k os)
 generalize Sort.grow (w.drewN k) os = w1 at B1 ⊢
 go_wp2_with fail
 go_ret
 exact ⟨by rw [← HE.out] <;> first | done | rfl, B1.out⟩

theorem sB_data (b : ByteArray) : sB b.data.toList = b := by
 cases b
 simp [sB]
theorem iterPos_of {w : World} {k p : Nat} {s : ByteArray} (h : w.heap[k]? = some (.stringIter s p)) : w.iterPos k = p := by simp [World.iterPos, h]
theorem tch_iter (w : World) (k : Nat) (s : ByteArray) (p : Nat) : Tch (fun i => i = k) w (w.iterAt k s p) :=
 ⟨rfl, rfl, rfl, by simp [World.iterAt], fun i _ hn => Lib.iterAt_other w k i s p hn⟩
theorem own_no_iter {w : World} {base : Nat} {e : TypeId} {size : Nat} {v : Value} {n : Nat} {xs : List Value} {k p : Nat} {s : ByteArray} (h : w.ownsRow base e size v n xs) (hk : w.heap[k]? = some (.stringIter s p)) : v.ownBlock ≠ some k := by
 rcases h.2 with ⟨h0, _⟩ | ⟨g, cap, cur, hv, _, hg, _⟩
 · subst h0; intro e; cases e
 subst hv
 intro e
 have e2 : g = k := by injection e
 subst e2
 rw [hk] at hg
 cases hg
def strs (ws : List (List UInt8)) : List Value := ws.map fun x => Value.string (sB x)
theorem string_info : (Tryz.prog.info? 9).map (fun i => (i.zero, i.size, i.bytes)) = some (some (.string ⟨#[]⟩), 1, 16) := by kernel_rfl

/-- the words so far, the instruction and the order's iterator -/
structure LnS (w0 w : World) (q1 q13 : Nat) (s : List UInt8) (pos : Nat) (v : Value) (ws : List (List UInt8)) (i : InstV) : Prop where
 o1 : Ob w q1 59 (insc i)
 it : w.heap[q13]? = some (.stringIter (sB s) pos)
 wo : w.ownsRow w0.heap.size 9 1 v ws.length (strs ws)
 b : Below w0.heap.size w0 w
 l13 : w0.heap.size ≤ q13
section
variable {w0 w w' : World} {q1 q13 pos : Nat} {s : List UInt8} {v : Value} {ws : List (List UInt8)} {i : InstV}
theorem LnS.below (h : LnS w0 w q1 q13 s pos v ws i) (hb : Below w.heap.size w w') : LnS w0 w' q1 q13 s pos v ws i :=
 ⟨h.o1.below hb h.o1.lt, (hb.block _ (Array.getElem?_eq_some_iff.1 h.it).1).trans h.it, own_below h.wo hb, h.b.trans (hb.mono h.b.size), h.l13⟩
theorem LnS.ne (h : LnS w0 w q1 q13 s pos v ws i) : q1 ≠ q13 := fun e => by
 have h1 := h.o1
 have h2 := h.it
 unfold Ob at h1
 rw [e, h2] at h1
 cases h1
theorem LnS.next (h : LnS w0 w q1 q13 s pos v ws i) (p : Nat) : LnS w0 (w.iterAt q13 (sB s) p) q1 q13 s p v ws i :=
 ⟨h.o1.tch (tch_iter w q13 (sB s) p) h.ne, Lib.iterAt_heap w q13 (sB s) pos p h.it, own_tch h.wo (tch_iter w q13 (sB s) p) (fun i hi e => own_no_iter h.wo h.it (e ▸ hi)),
  (tch_iter w q13 (sB s) p).below h.b h.b.size (fun i hi e => by have := h.l13; omega), h.l13⟩
theorem LnS.app {v' : Value} {x : List UInt8} (h : LnS w0 w q1 q13 s pos v ws i) (ho : w'.ownsRow w0.heap.size 9 1 v' (ws.length + 1) (strs ws ++ [.string (sB x)])) (hk : w.grownBy w' v.ownBlock) : LnS w0 w' q1 q13 s pos v' (ws ++ [x]) i :=
 ⟨h.o1.grown hk (fun e => own_typed h.wo h.o1 (by decide) e.symm), (hk.block _ (Array.getElem?_eq_some_iff.1 h.it).1 (fun e => own_no_iter h.wo h.it e.symm)).trans h.it,
  by rw [List.length_append, show strs (ws ++ [x]) = strs ws ++ [.string (sB x)] by simp [strs]]; exact ho, h.b.grown hk h.b.size fun b e => (h.wo.lt b e).1, h.l13⟩
end
theorem words_take {i : InstV} {k : Nat} (h : k < (ordO i.op).length) : (wordsO i).take (k + 1) = (wordsO i).take k ++ [wordO i ((ordO i.op).getD k 0)] := by
 unfold wordsO
 rw [List.take_succ_eq_append_getElem (by simpa using h), List.getD_eq_getElem?_getD, List.getElem?_eq_getElem h]
 simp
theorem ord_ascii (op : Int) : ∀ c ∈ ordO op, c.toNat < 128 := by
 unfold ordO
 repeat' split
 all_goals decide
theorem ord_len (op : Int) : (ordO op).length ≤ 3 := by
 unfold ordO
 repeat' split
 all_goals decide
theorem join_len : ∀ (ws : List (List UInt8)) (x : List UInt8), (∀ w ∈ ws, w.length ≤ 21) → (join (x :: ws) [32]).length ≤ x.length + ws.length * 22
 | [], x, _ => by rw [Lib.join_one]; simp
 | y :: r, x, h => by
   have h1 := h y List.mem_cons_self
   have ih := join_len r y (fun w hw => h w (List.mem_cons_of_mem _ hw))
   rw [join_two, List.length_append, List.length_cons, List.length_cons]
   omega
theorem line_len {i : InstV} (h : rightV i = true) (hm : -9223372036854775808 ≤ i.m ∧ i.m ≤ 9223372036854775807) : (lineO i).length ≤ 200 := by
 have r := right_is h
 have key : ∀ y, y < 24 → (nmO y).data.toList.length ≤ 20 := by decide
 have hn : (nameO i).length ≤ 20 := key (oI i.op) (by have := Op.oI_le i.op; omega)
 have hb := r.b
 have hw : ∀ w ∈ wordsO i, w.length ≤ 21 := by
  intro w hw
  obtain ⟨f, _, rfl⟩ := List.mem_map.1 hw
  have h1 := itoa_len (n := i.d) (by have := r.d0; omega) (by have := r.d1; omega)
  have h2 := itoa_len (n := i.a) (by have := r.a0; omega) (by have := r.a1; omega)
  have h3 := itoa_len (n := i.b) (by omega) (by omega)
  have h4 := itoa_len hm.1 hm.2
  unfold wordO regW
  repeat' split
  all_goals first | (rw [List.length_cons]; omega) | omega
 have := join_len (wordsO i) (nameO i) hw
 have h3 : (wordsO i).length ≤ 3 := by unfold wordsO; rw [List.length_map]; exact ord_len _
 unfold lineO
 omega
end Go.Proofs.YtikkmkomlajnfaaGreatDoor.Wf
end

section
namespace Go.Proofs.YtikkmkomlajnfaaGreatDoor.Wf
set_option maxRecDepth 100000
set_option maxHeartbeats 16000000
open Go.RowKit
open Go.Lib (itoa join)
open Go.Proofs.YtikkmkomlajnfaaGreatDoor.Op (InstV insc insVal rightV right_is RightI Frm insc_one nmO oI oI_nat)

theorem line_any (w : World) (i : InstV) (hi : rightV i = true) (hm : -9223372036854775808 ≤ i.m ∧ i.m ≤ 9223372036854775807) (hL : Lb w) :
 Calls Tryz.prog 15 #[insVal i] w fun e w' => e = .returned (.string (sB (lineO i))) ∧ Below w.heap.size w w' := by
 have HLL := Lib.hid (line_len hi hm)
 have HRI := Lib.hid (right_is hi)
 have HM := Lib.hid hm
 have HL := Lib.hid hL
 have HOL := Lib.hid (ord_len i.op)
 have HOA := Lib.hid (ord_ascii i.op)
 have HJ := Lib.hid (show ∀ ws, ws = nameO i :: (wordsO i).take (ordO i.op).length → join ws [32] = lineO i from fun ws h => by rw [h, List.take_of_length_le (by unfold wordsO; rw [List.length_map]; exact Nat.le_refl _)]; rfl)
 have HNM := Lib.hid (sB_data (nmO (oI i.op)))
 have HWT := Lib.hid (fun k h => @words_take i k h)
 have B0 := Lib.hid (Below.refl w.heap.size w)
 obtain ⟨i0, hi0, hz0, hz1, hz2⟩ := info_parts string_info
 clear hm hL hi
 obtain ⟨op, d, a, s, m⟩ := i
 unfold insVal
 dsimp only at HOL HOA HM HJ HNM HWT ⊢
 go_enter Tryz.func15, Tryz.ntmps15
 go_upto_region 1 with fail
 have O1 := Lib.hid (Ob.fresh w 59 [.int .i64 op, .int .i64 d, .int .i64 a, .int .i64 s, .int .i64 m])
 have B1 := Lib.hid (below_alloc (B0.out) (.cells #[.int .i64 op, .int .i64 d, .int .i64 a, .int .i64 s, .int .i64 m] 59))
 have Hq1 := Lib.hid (show w.heap.size ≤ w.heap.size by have := B0.out.size; omega)
 clear B0
 generalize (w.alloc (.cells #[.int .i64 op, .int .i64 d, .int .i64 a, .int .i64 s, .int .i64 m] 59)) = w1 at O1 B1 ⊢
 obtain ⟨q1, hq1⟩ : ∃ q1, w.heap.size = q1 := ⟨_, rfl⟩
 have Hq1 := Lib.hid (Nat.le_of_eq hq1)
 rw [hq1] at O1 ⊢
 clear hq1
 have i0_ := O1.out.c0
 go_wp2_with fail
 clear i0_
 refine (Name_any w1 op (HL.out.f.below B1.out)).mono ?_
 rintro e w2 ⟨rfl, b2⟩
 rw [← HNM.out]
 have B2 := Lib.hid (B1.out.trans (b2.mono B1.out.size))
 have O2 := Lib.hid (O1.out.below b2 O1.out.lt)
 clear b2 O1 B1
 have NM := Lib.hid (show (nmO (oI op)).data.toList = nameO ⟨op, d, a, s, m⟩ from rfl)
 rw [NM.out]
 generalize nameO ⟨op, d, a, s, m⟩ = nm at HJ ⊢
 have P3 := Lib.hid (show (w2.alloc (.cells #[.string (sB nm)] 9)).ownsRow w.heap.size 9 1 (.slice (some ⟨w2.heap.size, 0, none⟩) 1 1) 1 (strs [nm]) from ob_own (xs := [.string (sB nm)]) (rest := []) (Ob.fresh w2 9 [.string (sB nm)]) B2.out.size rfl (Nat.le_refl _) (by decide) rfl)
 have O3 := Lib.hid (O2.out.alloc (.cells #[.string (sB nm)] 9))
 have B3 := Lib.hid (below_alloc B2.out (.cells #[.string (sB nm)] 9))
 go_upto_region 2 with fail
 clear O2 B2
 generalize w2.alloc (.cells #[.string (sB nm)] 9) = w3 at P3 O3 B3 ⊢
 generalize (Value.slice (some ⟨w2.heap.size, 0, none⟩) 1 1) = v3 at P3 ⊢
 have i0_ := O3.out.c0
 go_wp2_with fail
 clear i0_
 refine (order_any w3 op HRI.out.o0 HRI.out.o1).mono ?_
 rintro e w4 ⟨rfl, rfl⟩
 go_wp2_with fail
 have HI := Lib.hid (show LnS w (w3.iter (sB (ordO op)) 0) q1 w3.heap.size (ordO op) 0 v3 [nm] ⟨op, d, a, s, m⟩ from by
  have hb : Below w3.heap.size w3 (w3.iter (sB (ordO op)) 0) := below_alloc (Below.refl _ _) (.stringIter (sB (ordO op)) 0)
  exact ⟨O3.out.below hb O3.out.lt, by simp [World.iter_heap], own_below P3.out hb, B3.out.trans (hb.mono B3.out.size), B3.out.size⟩)
 clear O3 P3 B3 NM HNM
 generalize w3.iter (sB (ordO op)) 0 = w4 at HI ⊢
 generalize w3.heap.size = q13 at HI ⊢
 obtain ⟨N, hN⟩ : ∃ N, (ordO op).length = N := ⟨_, rfl⟩
 have HN := Lib.hid hN
 rw [hN] at HOL HJ HWT
 clear hN
 go_loopw [3] (fun u wr => ∃ k : Nat, k ≤ N ∧ LnS w wr q1 q13 (ordO op) k u (nm :: (wordsO ⟨op, d, a, s, m⟩).take k) ⟨op, d, a, s, m⟩) (fun _ wr => N - wr.iterPos q13)
 case atStart => exact ⟨0, Nat.zero_le _, HI.out⟩
 case round =>
  clear HI
  obtain ⟨k, hk, hls⟩ := hrel
  have LS := Lib.hid hls
  clear hls
  have hpos := iterPos_of LS.out.it
  by_cases hlt : k < N
  · have hsz : k < (sB (ordO op)).size := by rw [sB_size, HN.out]; exact hlt
    have hko : k < (ordO op).length := by rw [HN.out]; exact hlt
    have hmem : (ordO op).getD k 0 ∈ ordO op := by rw [List.getD_eq_getElem?_getD, List.getElem?_eq_getElem hko]; exact List.getElem_mem hko
    have hnx := fun ty => Lib.run_next_ascii_at (P := Tryz.prog) wr q13 (sB (ordO op)) k ty LS.out.it hsz (by rw [sB_get]; exact HOA.out _ hmem)
    rw [sB_get] at hnx
    have HW := Lib.hid (HWT.out k hlt)
    have LN := Lib.hid (LS.out.next (k + 1))
    clear hsz hko hmem LS
    generalize (ordO op).getD k 0 = c at hnx HW
    generalize wr.iterAt q13 (sB (ordO op)) (k + 1) = w5 at hnx LN
    by_cases h100 : c = 100
    · have HX := Lib.hid (show wordO ⟨op, d, a, s, m⟩ c = regW d by subst h100; rfl)
      have hcc : (c.toNat : Int) = 100 := by subst h100; rfl
      rw [hcc] at hnx
      have j_ : w5.cell? ⟨q1, 1, none⟩ = some (.int .i64 d) := LN.out.o1.cell 1
      go_wp2_with fail
      refine (reg_any w5 d (by have h1 := HRI.out.d0; have h2 := HRI.out.a0; have h3 := HRI.out.b; dsimp only at h1 h2 h3; omega) (by have h1 := HRI.out.d1; have h2 := HRI.out.a1; have h3 := HRI.out.b; dsimp only at h1 h2 h3; omega) (HL.out.below LN.out.b)).mono ?_
      rintro e w6 ⟨rfl, b6⟩
      have E6 := Lib.hid ((LN.out.below b6).below (below_alloc (Below.refl _ _) (.cells #[.string (sB (regW d))] 9)))
      clear b6 LN
      generalize regW d = X at HX E6 ⊢
      go_wp2_with
       (at_builtin
        refine wpList_append_sl _ rfl (.tmp 26) (.tmp 30) _ rfl w.heap.size 9 i0 _ 1 16 Tryz.underlying100 hi0 hz0 hz1 hz2 rfl (by omega) _ _ _ rfl E6.out.wo
         (some ⟨w6.heap.size, 0, none⟩) 1 1 [.string (sB X)] rfl rfl (Sl.fresh w6 #[.string (sB X)] 9 (0, 0)) (by intro u hu; rw [List.mem_singleton] at hu; subst hu; rfl) (by simp only [maxLen]; have := HOL.out; have := List.length_take_le k (wordsO ⟨op, d, a, s, m⟩); rw [List.length_cons]; omega) (by have := HOL.out; have := List.length_take_le k (wordsO ⟨op, d, a, s, m⟩); rw [List.length_cons]; omega) E6.out.b.size ?_
        intro v7 w7 hown hgr _
        have L7 := Lib.hid (E6.out.app hown hgr)
        clear hown hgr)
      exact ⟨⟨k + 1, hlt, by rw [HW.out, HX.out]; exact L7.out⟩, by rw [iterPos_of L7.out.it, hpos]; omega⟩
    have e100 : ((c.toNat : Int) == 100) = false := by rw [beq_eq_false_iff_ne]; exact fun h => h100 (UInt8.toNat_inj.1 (show c.toNat = 100 by omega))
    by_cases h97 : c = 97
    · have HX := Lib.hid (show wordO ⟨op, d, a, s, m⟩ c = regW a by subst h97; rfl)
      have hcc : (c.toNat : Int) = 97 := by subst h97; rfl
      rw [hcc] at hnx
      have j_ : w5.cell? ⟨q1, 2, none⟩ = some (.int .i64 a) := LN.out.o1.cell 2
      go_wp2_with fail
      refine (reg_any w5 a (by have h1 := HRI.out.d0; have h2 := HRI.out.a0; have h3 := HRI.out.b; dsimp only at h1 h2 h3; omega) (by have h1 := HRI.out.d1; have h2 := HRI.out.a1; have h3 := HRI.out.b; dsimp only at h1 h2 h3; omega) (HL.out.below LN.out.b)).mono ?_
      rintro e w6 ⟨rfl, b6⟩
      have E6 := Lib.hid ((LN.out.below b6).below (below_alloc (Below.refl _ _) (.cells #[.string (sB (regW a))] 9)))
      clear b6 LN
      generalize regW a = X at HX E6 ⊢
      go_wp2_with
       (at_builtin
        refine wpList_append_sl _ rfl (.tmp 35) (.tmp 39) _ rfl w.heap.size 9 i0 _ 1 16 Tryz.underlying100 hi0 hz0 hz1 hz2 rfl (by omega) _ _ _ rfl E6.out.wo
         (some ⟨w6.heap.size, 0, none⟩) 1 1 [.string (sB X)] rfl rfl (Sl.fresh w6 #[.string (sB X)] 9 (0, 0)) (by intro u hu; rw [List.mem_singleton] at hu; subst hu; rfl) (by simp only [maxLen]; have := HOL.out; have := List.length_take_le k (wordsO ⟨op, d, a, s, m⟩); rw [List.length_cons]; omega) (by have := HOL.out; have := List.length_take_le k (wordsO ⟨op, d, a, s, m⟩); rw [List.length_cons]; omega) E6.out.b.size ?_
        intro v7 w7 hown hgr _
        have L7 := Lib.hid (E6.out.app hown hgr)
        clear hown hgr)
      exact ⟨⟨k + 1, hlt, by rw [HW.out, HX.out]; exact L7.out⟩, by rw [iterPos_of L7.out.it, hpos]; omega⟩
    have e97 : ((c.toNat : Int) == 97) = false := by rw [beq_eq_false_iff_ne]; exact fun h => h97 (UInt8.toNat_inj.1 (show c.toNat = 97 by omega))
    by_cases h106 : c = 106
    · have HX := Lib.hid (show wordO ⟨op, d, a, s, m⟩ c = itoa d by subst h106; rfl)
      have hcc : (c.toNat : Int) = 106 := by subst h106; rfl
      rw [hcc] at hnx
      have j_ : w5.cell? ⟨q1, 1, none⟩ = some (.int .i64 d) := LN.out.o1.cell 1
      go_wp2_with fail
      refine (Tryz.strconv_Itoa d (by have h1 := HRI.out.d0; dsimp only at h1; omega) (by have h1 := HRI.out.d1; dsimp only at h1; omega) w5 (HL.out.below LN.out.b).p.is).mono ?_
      rintro e w6 ⟨rfl, kk, os, rfl⟩
      have b6 := below_more w5 kk os
      rw [show (⟨(itoa d).toArray⟩ : ByteArray) = sB (itoa d) from rfl]
      generalize Sort.grow (w5.drewN kk) os = w6 at b6 ⊢
      have E6 := Lib.hid ((LN.out.below b6).below (below_alloc (Below.refl _ _) (.cells #[.string (sB (itoa d))] 9)))
      clear b6 LN
      generalize itoa d = X at HX E6 ⊢
      go_wp2_with
       (at_builtin
        refine wpList_append_sl _ rfl (.tmp 44) (.tmp 48) _ rfl w.heap.size 9 i0 _ 1 16 Tryz.underlying100 hi0 hz0 hz1 hz2 rfl (by omega) _ _ _ rfl E6.out.wo
         (some ⟨w6.heap.size, 0, none⟩) 1 1 [.string (sB X)] rfl rfl (Sl.fresh w6 #[.string (sB X)] 9 (0, 0)) (by intro u hu; rw [List.mem_singleton] at hu; subst hu; rfl) (by simp only [maxLen]; have := HOL.out; have := List.length_take_le k (wordsO ⟨op, d, a, s, m⟩); rw [List.length_cons]; omega) (by have := HOL.out; have := List.length_take_le k (wordsO ⟨op, d, a, s, m⟩); rw [List.length_cons]; omega) E6.out.b.size ?_
        intro v7 w7 hown hgr _
        have L7 := Lib.hid (E6.out.app hown hgr)
        clear hown hgr)
      exact ⟨⟨k + 1, hlt, by rw [HW.out, HX.out]; exact L7.out⟩, by rw [iterPos_of L7.out.it, hpos]; omega⟩
    have e106 : ((c.toNat : Int) == 106) = false := by rw [beq_eq_false_iff_ne]; exact fun h => h106 (UInt8.toNat_inj.1 (show c.toNat = 106 by omega))
    by_cases h115 : c = 115
    · by_cases h8 : s = 8
      · subst h8
        have HX := Lib.hid (show wordO ⟨op, d, a, 8, m⟩ c = itoa m by subst h115; rfl)
        have hcc : (c.toNat : Int) = 115 := by subst h115; rfl
        rw [hcc] at hnx
        have j_ : w5.cell? ⟨q1, 4, none⟩ = some (.int .i64 m) := LN.out.o1.cell 4
        have j3 : w5.cell? ⟨q1, 3, none⟩ = some (.int .i64 8) := LN.out.o1.cell 3
        go_wp2_with fail
        refine (Tryz.strconv_FormatInt_10 m HM.out.1 HM.out.2 w5 (HL.out.below LN.out.b).p.is).mono ?_
        rintro e w6 ⟨rfl, kk, os, rfl⟩
        have b6 := below_more w5 kk os
        rw [show (⟨(itoa m).toArray⟩ : ByteArray) = sB (itoa m) from rfl]
        generalize Sort.grow (w5.drewN kk) os = w6 at b6 ⊢
        have E6 := Lib.hid ((LN.out.below b6).below (below_alloc (Below.refl _ _) (.cells #[.string (sB (itoa m))] 9)))
        clear b6 LN
        generalize itoa m = X at HX E6 ⊢
        go_wp2_with
         (at_builtin
          refine wpList_append_sl _ rfl (.tmp 17) (.tmp 21) _ rfl w.heap.size 9 i0 _ 1 16 Tryz.underlying100 hi0 hz0 hz1 hz2 rfl (by omega) _ _ _ rfl E6.out.wo
           (some ⟨w6.heap.size, 0, none⟩) 1 1 [.string (sB X)] rfl rfl (Sl.fresh w6 #[.string (sB X)] 9 (0, 0)) (by intro u hu; rw [List.mem_singleton] at hu; subst hu; rfl) (by simp only [maxLen]; have := HOL.out; have := List.length_take_le k (wordsO ⟨op, d, a, 8, m⟩); rw [List.length_cons]; omega) (by have := HOL.out; have := List.length_take_le k (wordsO ⟨op, d, a, 8, m⟩); rw [List.length_cons]; omega) E6.out.b.size ?_
          intro v7 w7 hown hgr _
          have L7 := Lib.hid (E6.out.app hown hgr)
          clear hown hgr)
        exact ⟨⟨k + 1, hlt, by rw [HW.out, HX.out]; exact L7.out⟩, by rw [iterPos_of L7.out.it, hpos]; omega⟩
      have g8 : (s == 8) = false := by rw [beq_eq_false_iff_ne]; exact h8
      have g8' : (s != 8) = true := by simpa using h8
      have HX := Lib.hid (show wordO ⟨op, d, a, s, m⟩ c = regW s by subst h115; exact if_pos (And.intro rfl h8))
      have hcc : (c.toNat : Int) = 115 := by subst h115; rfl
      rw [hcc] at hnx
      have j_ : w5.cell? ⟨q1, 3, none⟩ = some (.int .i64 s) := LN.out.o1.cell 3
      go_wp2_with fail
      refine (reg_any w5 s (by have h1 := HRI.out.d0; have h2 := HRI.out.a0; have h3 := HRI.out.b; dsimp only at h1 h2 h3; omega) (by have h1 := HRI.out.d1; have h2 := HRI.out.a1; have h3 := HRI.out.b; dsimp only at h1 h2 h3; omega) (HL.out.below LN.out.b)).mono ?_
      rintro e w6 ⟨rfl, b6⟩
      have E6 := Lib.hid ((LN.out.below b6).below (below_alloc (Below.refl _ _) (.cells #[.string (sB (regW s))] 9)))
      clear b6 LN
      generalize regW s = X at HX E6 ⊢
      go_wp2_with
       (at_builtin
        refine wpList_append_sl _ rfl (.tmp 58) (.tmp 62) _ rfl w.heap.size 9 i0 _ 1 16 Tryz.underlying100 hi0 hz0 hz1 hz2 rfl (by omega) _ _ _ rfl E6.out.wo
         (some ⟨w6.heap.size, 0, none⟩) 1 1 [.string (sB X)] rfl rfl (Sl.fresh w6 #[.string (sB X)] 9 (0, 0)) (by intro u hu; rw [List.mem_singleton] at hu; subst hu; rfl) (by simp only [maxLen]; have := HOL.out; have := List.length_take_le k (wordsO ⟨op, d, a, s, m⟩); rw [List.length_cons]; omega) (by have := HOL.out; have := List.length_take_le k (wordsO ⟨op, d, a, s, m⟩); rw [List.length_cons]; omega) E6.out.b.size ?_
        intro v7 w7 hown hgr _
        have L7 := Lib.hid (E6.out.app hown hgr)
        clear hown hgr)
      exact ⟨⟨k + 1, hlt, by rw [HW.out, HX.out]; exact L7.out⟩, by rw [iterPos_of L7.out.it, hpos]; omega⟩
    have e115 : ((c.toNat : Int) == 115) = false := by rw [beq_eq_false_iff_ne]; exact fun h => h115 (UInt8.toNat_inj.1 (show c.toNat = 115 by omega))
    have HX := Lib.hid (show wordO ⟨op, d, a, s, m⟩ c = itoa m by unfold wordO; rw [if_neg h100, if_neg h97, if_neg h106, if_neg (fun e => h115 e.1)])
    have j_ : w5.cell? ⟨q1, 4, none⟩ = some (.int .i64 m) := LN.out.o1.cell 4
    have j3 : w5.cell? ⟨q1, 3, none⟩ = some (.int .i64 s) := LN.out.o1.cell 3
    go_wp2_with fail
    refine (Tryz.strconv_FormatInt_10 m HM.out.1 HM.out.2 w5 (HL.out.below LN.out.b).p.is).mono ?_
    rintro e w6 ⟨rfl, kk, os, rfl⟩
    have b6 := below_more w5 kk os
    rw [show (⟨(itoa m).toArray⟩ : ByteArray) = sB (itoa m) from rfl]
    generalize Sort.grow (w5.drewN kk) os = w6 at b6 ⊢
    have E6 := Lib.hid ((LN.out.below b6).below (below_alloc (Below.refl _ _) (.cells #[.string (sB (itoa m))] 9)))
    clear b6 LN
    generalize itoa m = X at HX E6 ⊢
    go_wp2_with
     (at_builtin
      refine wpList_append_sl _ rfl (.tmp 17) (.tmp 21) _ rfl w.heap.size 9 i0 _ 1 16 Tryz.underlying100 hi0 hz0 hz1 hz2 rfl (by omega) _ _ _ rfl E6.out.wo
       (some ⟨w6.heap.size, 0, none⟩) 1 1 [.string (sB X)] rfl rfl (Sl.fresh w6 #[.string (sB X)] 9 (0, 0)) (by intro u hu; rw [List.mem_singleton] at hu; subst hu; rfl) (by simp only [maxLen]; have := HOL.out; have := List.length_take_le k (wordsO ⟨op, d, a, s, m⟩); rw [List.length_cons]; omega) (by have := HOL.out; have := List.length_take_le k (wordsO ⟨op, d, a, s, m⟩); rw [List.length_cons]; omega) E6.out.b.size ?_
      intro v7 w7 hown hgr _
      have L7 := Lib.hid (E6.out.app hown hgr)
      clear hown hgr)
    exact ⟨⟨k + 1, hlt, by rw [HW.out, HX.out]; exact L7.out⟩, by rw [iterPos_of L7.out.it, hpos]; omega⟩
  obtain rfl : N = k := by omega
  have hsz : ¬ N < (sB (ordO op)).size := by rw [sB_size, HN.out]; omega
  have hnx := fun ty => Lib.run_next_end_at (P := Tryz.prog) wr q13 (sB (ordO op)) N ty LS.out.it hsz
  obtain ⟨WS, hWS⟩ : ∃ WS, nm :: (wordsO ⟨op, d, a, s, m⟩).take N = WS := ⟨_, rfl⟩
  have hj := HJ.out WS hWS.symm
  have hl0 : 0 < WS.length := by rw [← hWS]; exact Nat.succ_pos _
  have hl4 : WS.length ≤ 4 := by rw [← hWS, List.length_cons]; have := HOL.out; have := List.length_take_le N (wordsO ⟨op, d, a, s, m⟩); omega
  rw [hWS] at LS
  clear hWS HJ HWT
  obtain ⟨g, cap, rest, rfl, hg, hO, hle, hcm, hr, hxl⟩ := own_ob LS.out.wo hl0
  have SLw := own_sl LS.out.wo
  have BW := Lib.hid LS.out.b
  have HCE := Lib.hid (show ∀ (j : Nat) x, (WS.map sB)[j]? = some x → wr.cell? ⟨g, 0 + j, none⟩ = some (.string x) from fun j x hx => by
   obtain ⟨b', o', e, hc⟩ := SLw (by rw [strs, List.length_map]; exact hl0)
   cases e
   rw [List.getElem?_map] at hx
   have hjl : j < WS.length := by
    rcases Nat.lt_or_ge j WS.length with h | h
    · exact h
    rw [List.getElem?_eq_none h] at hx; cases hx
   rw [hc j (by rw [strs, List.length_map]; exact hjl), List.getD_eq_getElem?_getD, strs, List.getElem?_map]
   rw [List.getElem?_eq_getElem hjl] at hx ⊢
   cases hx
   rfl)
  have hjj : join ((WS.map sB).map (·.data.toList)) [32] = lineO ⟨op, d, a, s, m⟩ := by
   rw [List.map_map, show (fun x : ByteArray => x.data.toList) ∘ sB = id from funext fun x => sB_list x, List.map_id]
   exact hj
  have HJ2 := Lib.hid (Tryz.strings_Join g 0 cap (WS.map sB) ⟨#[32]⟩ wr HCE.out hO.lt (by rw [List.length_map]; omega) (by rw [List.length_map]; exact hle) (by
   rw [show (⟨#[32]⟩ : ByteArray).data.toList = [32] from rfl, hjj]
   have := HLL.out
   omega))
  rw [show (⟨#[32]⟩ : ByteArray).data.toList = [32] from rfl, hjj, List.length_map] at HJ2
  obtain ⟨LO, hLO⟩ : ∃ LO, lineO ⟨op, d, a, s, m⟩ = LO := ⟨_, rfl⟩
  have HLO := Lib.hid (show (⟨LO.toArray⟩ : ByteArray) = sB (lineO ⟨op, d, a, s, m⟩) from by rw [hLO]; rfl)
  rw [hLO] at HJ2
  clear hle hcm hr hxl hg hO HCE SLw hj hjj LS hl0 hl4
  generalize WS.length = wl at HJ2 ⊢
  clear hLO
  go_wp2_with fail
  refine HJ2.out.mono ?_
  rintro e w6 ⟨rfl, b6⟩
  have B6 := Lib.hid (BW.out.trans (b6.mono BW.out.size))
  clear b6 HJ2
  go_wp2_with fail
  go_ret
  exact ⟨congrArg (fun x => Ending.returned (.string x)) HLO.out, B6.out⟩
end Go.Proofs.YtikkmkomlajnfaaGreatDoor.Wf
end
