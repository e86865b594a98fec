/-
  Numbers of 64 bits as BitVec 64: 'uv x' is the number as the walk has it (an Int), closed to simp; how the walk's arithmetic on such numbers reads. Conditions: none.
  A slice that reads as a list of cells of one word each; a list of numbers of 64 bits as such cells. Conditions: none.
  append onto a row of the call's own from a slice that reads as a list of cells, nil let in; what such a row reads as. Conditions: none.
  A block of the call's own that is known whole, as a list of cells; what keeps it; arrays of numbers inside it. Conditions: none.
  Short names for steps that are taken often. Conditions: those of each theorem.
  What an argument that came in reads as: numbers, slices of numbers. Conditions: the form's own reach.
  What an argument that is a slice of structs of one-cell fields reads as. Conditions: the form's own reach.
  What an argument that is a slice of elements of C cells each reads as, whatever the elements. Conditions: the form's own reach.
-/
import Derived.WalkKit
import Derived.WalkSpells
import Derived.WalkLawsBesides
import Derived.Lib.Hide
import Derived.Maps.AppendAt
import Derived.Deep.AppendLies
import Derived.RegionTactic
import Derived.OwnWalk
import Derived.Deep.RegionHeld3
import Derived.ProofKit
import Derived.OpenShut
import Derived.SizedLaws
import Derived.Deep.Slices
import Derived.Deep.Fields
import Derived.ChangeSame
set_option linter.unusedVariables false
set_option linter.unusedSimpArgs false
section
namespace Go.Proofs.YtikkmkomlajnfaaGreatDoor
open Go.RowKit

/-- the number of a word of 64 bits -/
def uv (x : BitVec 64) : Int := (x.toNat : Int)

theorem uv_nonneg (x : BitVec 64) : 0 ≤ uv x := Int.natCast_nonneg _
theorem uv_lt (x : BitVec 64) : uv x < 18446744073709551616 := by unfold uv; have := x.isLt; omega
theorem uv_le (x : BitVec 64) : uv x ≤ 18446744073709551615 := by unfold uv; have := x.isLt; omega
theorem uv_toNat (x : BitVec 64) : (uv x).toNat = x.toNat := by simp [uv]
theorem uv_zero : uv 0#64 = 0 := rfl
theorem uv_one : uv 1#64 = 1 := rfl
theorem uv_lit (n : Nat) (h : n < 18446744073709551616) : uv (BitVec.ofNat 64 n) = (n : Int) := by
 unfold uv; rw [BitVec.toNat_ofNat, Nat.mod_eq_of_lt (by omega)]
theorem uv_of (n : Int) (h0 : 0 ≤ n) (h1 : n < 18446744073709551616) : ∃ x : BitVec 64, n = uv x :=
 ⟨BitVec.ofNat 64 n.toNat, by rw [uv_lit _ (by omega)]; omega⟩
theorem uv_inj {x y : BitVec 64} : uv x = uv y ↔ x = y := by
 unfold uv
 constructor
 · intro h; exact BitVec.eq_of_toNat_eq (by omega)
 rintro rfl; rfl
theorem uv_of_wf {n : Int} (h : (Lit.int .u64 n).wf = true) : ∃ x : BitVec 64, n = uv x := by
 simp [Lit.wf, IntKind.min, IntKind.max, IntKind.signed, IntKind.bits] at h
 exact uv_of n (by omega) (by omega)

theorem uv_wrap (x : BitVec 64) : IntKind.u64.wrap (uv x) = uv x := by
 rw [IntKind.wrap_u64]; have := uv_nonneg x; have := uv_lt x; omega
theorem uv_add (x y : BitVec 64) : IntKind.u64.wrap (uv x + uv y) = uv (x + y) := by
 rw [IntKind.wrap_u64]; unfold uv; rw [BitVec.toNat_add]; omega
theorem uv_sub (x y : BitVec 64) : IntKind.u64.wrap (uv x - uv y) = uv (x - y) := by
 rw [IntKind.wrap_u64]; unfold uv; rw [BitVec.toNat_sub]; have := x.isLt; have := y.isLt; omega
theorem uv_mul (x y : BitVec 64) : IntKind.u64.wrap (uv x * uv y) = uv (x * y) := by
 rw [IntKind.wrap_u64]; unfold uv; rw [BitVec.toNat_mul, ← Int.natCast_mul]; omega
theorem uv_add1 (x : BitVec 64) : IntKind.u64.wrap (uv x + 1) = uv (x + 1#64) := uv_add x 1#64
theorem uv_sub1 (x : BitVec 64) : IntKind.u64.wrap (uv x - 1) = uv (x - 1#64) := uv_sub x 1#64
theorem uv_and (x y : BitVec 64) : bits .and .u64 (uv x) (uv y) = uv (x &&& y) := by
 unfold uv; rw [u64_and_nat _ _ x.isLt y.isLt, BitVec.toNat_and]
theorem uv_or (x y : BitVec 64) : bits .or .u64 (uv x) (uv y) = uv (x ||| y) := by
 unfold uv; rw [u64_or_nat _ _ x.isLt y.isLt, BitVec.toNat_or]
theorem uv_xor (x y : BitVec 64) : bits .xor .u64 (uv x) (uv y) = uv (x ^^^ y) := by
 unfold uv; rw [u64_xor_nat _ _ x.isLt y.isLt, BitVec.toNat_xor]
theorem uv_andNot (x y : BitVec 64) : bits .andNot .u64 (uv x) (uv y) = uv (x &&& ~~~y) := by
 unfold uv; rw [u64_andNot_nat _ _ x.isLt y.isLt, BitVec.toNat_and, BitVec.toNat_not]
theorem uv_and1 (x : BitVec 64) : bits .and .u64 (uv x) 1 = uv (x &&& 1#64) := uv_and x 1#64
theorem uv_not (x : BitVec 64) : bits .xor .u64 18446744073709551615 (uv x) = uv (~~~x) := by
 have h := uv_xor (BitVec.allOnes 64) x
 have e : uv (BitVec.allOnes 64) = 18446744073709551615 := rfl
 rw [e] at h
 rw [h, BitVec.allOnes_xor]

theorem uv_notMax (x : BitVec 64) : bits .xor .u64 IntKind.u64.max (uv x) = uv (~~~x) := uv_not x
theorem u64_signed : IntKind.u64.signed = false := rfl
theorem uv_beq (x y : BitVec 64) : (uv x == uv y) = decide (x = y) := by
 rw [Bool.eq_iff_iff]; simp [uv_inj]
theorem uv_shr (x : BitVec 64) (k : Nat) : uv x / 2 ^ k = uv (x >>> k) := by
 unfold uv; rw [BitVec.toNat_ushiftRight, Nat.shiftRight_eq_div_pow, Int.natCast_ediv, Int.natCast_pow]; rfl
theorem uv_shr1 (x : BitVec 64) : uv x / (2 : Int) = uv (x >>> 1) := by
 have h := uv_shr x 1; rw [Int.pow_succ, Int.pow_zero, Int.one_mul] at h; exact h
theorem uv_shl (x : BitVec 64) (k : Nat) : IntKind.u64.wrap (uv x * 2 ^ k) = uv (x <<< k) := by
 rw [IntKind.wrap_u64]; unfold uv
 rw [BitVec.toNat_shiftLeft, Nat.shiftLeft_eq]
 have e : ((2 : Int) ^ k) = ((2 ^ k : Nat) : Int) := by rw [Int.natCast_pow]; rfl
 rw [e, ← Int.natCast_mul]; omega
theorem uv_shr63 (x : BitVec 64) : uv x / (9223372036854775808 : Int) = uv (x >>> 63) := by
 rw [← uv_shr]; rfl
theorem uv_shl1 (x : BitVec 64) : IntKind.u64.wrap (uv x * 2) = uv (x <<< 1) := by
 rw [← uv_shl]; rfl
theorem uv_1shl (k : Nat) : IntKind.u64.wrap (2 ^ k) = uv (1#64 <<< k) := by
 rw [← uv_shl, uv_one, Int.one_mul]
theorem uv_dec_le {x y : BitVec 64} (h : x.toNat ≤ y.toNat) : decide (uv x ≤ uv y) = true := by unfold uv; simp; omega
theorem uv_dec_nle {x y : BitVec 64} (h : ¬ x.toNat ≤ y.toNat) : decide (uv x ≤ uv y) = false := by unfold uv; simp; omega
theorem uv_dec_lt {x y : BitVec 64} (h : x.toNat < y.toNat) : decide (uv x < uv y) = true := by unfold uv; simp; omega
theorem uv_dec_nlt {x y : BitVec 64} (h : ¬ x.toNat < y.toNat) : decide (uv x < uv y) = false := by unfold uv; simp; omega
theorem uv_beq0 {x : BitVec 64} (h : x = 0#64) : (uv x == 0) = true := by rw [h]; rfl
theorem uv_nbeq0 {x : BitVec 64} (h : x ≠ 0#64) : (uv x == 0) = false := by
 rw [← uv_zero, uv_beq]; simpa using h

theorem uv_tdiv (x y : BitVec 64) : IntKind.u64.wrap ((uv x).tdiv (uv y)) = uv (x / y) := by
 rw [Int.tdiv_eq_ediv_of_nonneg (uv_nonneg x)]
 have h : uv x / uv y = uv (x / y) := by unfold uv; rw [BitVec.toNat_udiv, Int.natCast_ediv]
 rw [h, uv_wrap]
theorem uv_tdiv2 (x : BitVec 64) : IntKind.u64.wrap ((uv x).tdiv 2) = uv (x >>> 1) := by
 rw [Int.tdiv_eq_ediv_of_nonneg (uv_nonneg x), uv_shr1, uv_wrap]
theorem uv_tmod (x y : BitVec 64) : (uv x).tmod (uv y) = uv (x % y) := by
 rw [Int.tmod_eq_emod_of_nonneg (uv_nonneg x)]
 unfold uv; rw [BitVec.toNat_umod, Int.natCast_emod]
theorem uv_shlMin (x y : BitVec 64) : x <<< min (uv y).toNat 64 = x <<< y.toNat := by
 rw [uv_toNat]
 by_cases h : y.toNat ≤ 64
 · rw [Nat.min_eq_left h]
 rw [Nat.min_eq_right (by omega), BitVec.shiftLeft_eq_zero (by omega), BitVec.shiftLeft_eq_zero (by omega)]
theorem uv_shrMin (x y : BitVec 64) : x >>> min (uv y).toNat 64 = x >>> y.toNat := by
 rw [uv_toNat]
 by_cases h : y.toNat ≤ 64
 · rw [Nat.min_eq_left h]
 rw [Nat.min_eq_right (by omega), BitVec.ushiftRight_eq_zero (by omega), BitVec.ushiftRight_eq_zero (by omega)]
theorem uv_ne0 {x : BitVec 64} (h : x ≠ 0#64) : ¬ uv x = 0 := fun e => h (uv_inj.1 (by rw [e]; rfl))

theorem uv_bne (x y : BitVec 64) : (uv x != uv y) = !decide (x = y) := by rw [bne, uv_beq]
theorem uv_dlt (x y : BitVec 64) : decide (uv x < uv y) = decide (x.toNat < y.toNat) := by
 unfold uv; rw [Bool.eq_iff_iff]; simp
theorem uv_dle (x y : BitVec 64) : decide (uv x ≤ uv y) = !decide (y.toNat < x.toNat) := by
 unfold uv; rw [Bool.eq_iff_iff]; simp
theorem uv_div (x y : BitVec 64) : uv x / uv y = uv (x / y) := by
 unfold uv; rw [BitVec.toNat_udiv, Int.natCast_ediv]
theorem uv_mod (x y : BitVec 64) : uv x % uv y = uv (x % y) := by
 unfold uv; rw [BitVec.toNat_umod, Int.natCast_emod]

theorem uv_min (x y : BitVec 64) : (if uv y < uv x then uv y else uv x) = uv (if y.toNat < x.toNat then y else x) := by
 unfold uv; by_cases h : y.toNat < x.toNat
 · rw [if_pos h, if_pos (by omega)]
 rw [if_neg h, if_neg (by omega)]

theorem ret_int {k : IntKind} {a b : Int} (h : a = b) : Ending.returned (.int k a) = .returned (.int k b) := by rw [h]
end Go.Proofs.YtikkmkomlajnfaaGreatDoor
end

section
namespace Go.Proofs.YtikkmkomlajnfaaGreatDoor
open Go.RowKit

/-- the slice at A (nil or not) reads as the cells xs -/
def Sl (w : World) (A : Option Addr) (xs : List Value) : Prop :=
 0 < xs.length → ∃ b o, A = some ⟨b, o, none⟩ ∧ ∀ j, j < xs.length → w.cell? ⟨b, o + j, none⟩ = some (xs.getD j undef)

/-- numbers of 64 bits as cells -/
def words (us : List (BitVec 64)) : List Value := us.map fun u => .int .u64 (uv u)
theorem Sl.nil (w : World) (A : Option Addr) : Sl w A [] := fun h => absurd h (by simp)

theorem Sl.mk {w : World} {b o : Nat} {xs : List Value} (h : ∀ j, j < xs.length → w.cell? ⟨b, o + j, none⟩ = some (xs.getD j undef)) : Sl w (some ⟨b, o, none⟩) xs :=
 fun _ => ⟨b, o, rfl, h⟩

/-- what another world has kept -/
theorem Sl.keep {w w' : World} {A : Option Addr} {xs : List Value} (h : Sl w A xs) (hk : ∀ p v, w.cell? p = some v → w'.cell? p = some v) : Sl w' A xs := fun hn => by
 obtain ⟨b, o, e, hc⟩ := h hn
 exact ⟨b, o, e, fun j hj => hk _ _ (hc j hj)⟩

theorem cell_lt {w : World} {p : Addr} {v : Value} (h : w.cell? p = some v) : p.block < w.heap.size := World.block_lt_of_cell? w p h

theorem Sl.below {w w' : World} {A : Option Addr} {xs : List Value} (h : Sl w A xs) (hb : Below w.heap.size w w') : Sl w' A xs :=
 h.keep fun p v hp => by rw [hb.cell (cell_lt hp)]; exact hp

theorem Sl.alloc {w : World} {A : Option Addr} {xs : List Value} (h : Sl w A xs) (o : Obj) : Sl (w.alloc o) A xs :=
 h.below ((Below.refl _ _).alloc (Nat.le_refl _) o)

/-- a block that has just been made reads as its cells -/
theorem Sl.fresh (w : World) (cs : Array Value) (T : TypeId) (fz : Nat × Nat) : Sl (w.alloc (.cells cs T fz)) (some ⟨w.heap.size, 0, none⟩) cs.toList :=
 Sl.mk fun j hj => by
  rw [Nat.zero_add, cell_of_row _ _ _ _ _ _ (heap_alloc_new w _)]
  rw [List.getD_eq_getElem?_getD, List.getElem?_eq_getElem hj]
  simp only [Array.length_toList] at hj
  simp [Array.getElem?_eq_getElem hj]

theorem uv_words (ns : List Int) (us : List (BitVec 64)) (h : ns = us.map uv) : ns.map (Value.int .u64) = words us := by
 subst h; simp [words]

end Go.Proofs.YtikkmkomlajnfaaGreatDoor
end

section
namespace Go.Proofs.YtikkmkomlajnfaaGreatDoor
open Go.RowKit

section
variable {P : Program} (w : World)

theorem run_append_nothing (base : Nat) (t ty e : TypeId) (i : TypeInfo) (size : Nat) (ht : P.underlying t = some (.slice e)) (hi : P.info? e = some i)
 (v : Value) (n : Nat) (xs : List Value) (hown : w.ownsRow base e size v n xs) (A : Option Addr) (c : Nat) : (Builtin.append_ #[t, t] ty #[v, .slice A 0 c]).run P w = .ok v w := by
 have h0 : ∀ (a : Addr) (w : World), (loadCells a 0).run P w = .ok #[] w := fun _ _ => rfl
 rcases hown.2 with ⟨rfl, rfl⟩ | ⟨g, cap, cur, rfl, _, _, hnc, _⟩
 · cases A <;> simp [Builtin.append_, run_underlying ht, sizeOf, typeInfo, hi, Builtin.lenOf, Builtin.firstCells, h0]
 cases A <;> simp [Builtin.append_, run_underlying ht, sizeOf, typeInfo, hi, Builtin.lenOf, Builtin.firstCells, hnc, storeCells, h0]

theorem run_append_sl (base : Nat) (t ty e : TypeId) (i : TypeInfo) (z : Value) (size bytes : Nat) (ht : P.underlying t = some (.slice e)) (hi : P.info? e = some i) (hz : i.zero = some z)
 (hsize : i.size = size) (hby : i.bytes = bytes) (hzs : z.cells.size = size) (hsz : 0 < size)
 (v : Value) (n : Nat) (xs : List Value) (hown : w.ownsRow base e size v n xs)
 (A : Option Addr) (m c : Nat) (news : List Value) (hl : news.length = m * size) (hr : Sl w A news) (h1 : ∀ u ∈ news, u.oneCell' = true)
 (h63 : n + m ≤ maxLen) (hbytes : (n + m) * bytes ≤ 140737488355328) (hbase : base ≤ w.heap.size) :
 ∃ v' w', (Builtin.append_ #[t, t] ty #[v, .slice A m c]).run P w = .ok v' w' ∧ w'.ownsRow base e size v' (n + m) (xs ++ news) ∧ w.grownBy w' v.ownBlock ∧
  (v'.ownBlock = v.ownBlock ∨ v'.ownBlock = some w.heap.size) := by
 by_cases hm : m = 0
 · subst hm
   have hn : news = [] := List.eq_nil_of_length_eq_zero (by simpa using hl)
   subst hn
   exact ⟨v, w, run_append_nothing w base t ty e i size ht hi v n xs hown A c, by simpa using hown, World.grownBy.refl w _, .inl rfl⟩
 have hpos : 0 < news.length := by rw [hl]; exact Nat.mul_pos (by omega) hsz
 obtain ⟨b, o, rfl, hc⟩ := hr hpos
 have hcells : ∀ j u, news[j]? = some u → w.cell? ((⟨b, o, none⟩ : Addr).add j) = some u := by
  intro j u hu
  have hj : j < news.length := (List.getElem?_eq_some_iff.1 hu).1
  have h := hc j hj
  rw [List.getD_eq_getElem?_getD, hu] at h
  rw [show (⟨b, o, none⟩ : Addr).add j = ⟨b, o + j, none⟩ from by unfold Addr.add; split <;> simp_all]
  exact h
 obtain ⟨v', w', hrun, h2, h3, _, h5⟩ := run_append_own_at (P := P) w base t ty e i z size bytes ht hi hz hsize hby hzs hsz v n xs hown ⟨b, o, none⟩ m c news hl hcells h1 h63 hbytes hbase
 exact ⟨v', w', hrun, h2, h3, h5⟩

theorem wp_append_sl {o : Oper} {a : Act} {K : Act → World → Prop} {Q : Exit → Act → World → Prop} (s x : Operand) (t : TypeId)
 (ho : o.op = .call { callee := .builtin .append, args := #[s, x], argTypes := #[t, t] })
 (base : Nat) (e : TypeId) (i : TypeInfo) (z : Value) (size bytes : Nat) (ht : P.underlying t = some (.slice e)) (hi : P.info? e = some i) (hz : i.zero = some z)
 (hsize : i.size = size) (hby : i.bytes = bytes) (hzs : z.cells.size = size) (hsz : 0 < size)
 (v : Value) (n : Nat) (xs : List Value) (hs : a.eval s = v) (hown : w.ownsRow base e size v n xs)
 (A : Option Addr) (m c : Nat) (news : List Value) (hx : a.eval x = .slice A m c) (hl : news.length = m * size) (hr : Sl w A news) (h1 : ∀ u ∈ news, u.oneCell' = true)
 (h63 : n + m ≤ maxLen) (hbytes : (n + m) * bytes ≤ 140737488355328) (hbase : base ≤ w.heap.size)
 (h : ∀ v' w', w'.ownsRow base e size v' (n + m) (xs ++ news) → w.grownBy w' v.ownBlock → (v'.ownBlock = v.ownBlock ∨ v'.ownBlock = some w.heap.size) → K (a.put o.dst v') w') : o.wp P a w K Q := by
 obtain ⟨v', w', hrun, h2, h3, h4⟩ := run_append_sl (P := P) w base t o.type e i z size bytes ht hi hz hsize hby hzs hsz v n xs hown A m c news hl hr h1 h63 hbytes hbase
 unfold Oper.wp execOp
 simp only [ho, resolve, invoke, builtin, Sem.run_bind, Sem.run_pure, Result.andThen_ok, List.map_toArray, List.map_cons, List.map_nil, hs, hx, hrun]
 exact h v' w' h2 h3 h4

theorem wpList_append_sl {ops : Array Oper} {rest : List Oper} {o : Oper} {a : Act} {Q : Exit → Act → World → Prop} (hgd : o.guard = none) (s x : Operand) (t : TypeId)
 (ho : o.op = .call { callee := .builtin .append, args := #[s, x], argTypes := #[t, t] })
 (base : Nat) (e : TypeId) (i : TypeInfo) (z : Value) (size bytes : Nat) (ht : P.underlying t = some (.slice e)) (hi : P.info? e = some i) (hz : i.zero = some z)
 (hsize : i.size = size) (hby : i.bytes = bytes) (hzs : z.cells.size = size) (hsz : 0 < size)
 (v : Value) (n : Nat) (xs : List Value) (hs : a.eval s = v) (hown : w.ownsRow base e size v n xs)
 (A : Option Addr) (m c : Nat) (news : List Value) (hx : a.eval x = .slice A m c) (hl : news.length = m * size) (hr : Sl w A news) (h1 : ∀ u ∈ news, u.oneCell' = true)
 (h63 : n + m ≤ maxLen) (hbytes : (n + m) * bytes ≤ 140737488355328) (hbase : base ≤ w.heap.size)
 (h : ∀ v' w', w'.ownsRow base e size v' (n + m) (xs ++ news) → w.grownBy w' v.ownBlock → (v'.ownBlock = v.ownBlock ∨ v'.ownBlock = some w.heap.size) → wpList P ops Q rest (a.put o.dst v') w') : wpList P ops Q (o :: rest) a w :=
 wpList_plain hgd fun _ hK => wp_append_sl w s x t ho base e i z size bytes ht hi hz hsize hby hzs hsz v n xs hs hown A m c news hx hl hr h1 h63 hbytes hbase fun v' w' h2 h3 h4 => hK _ _ (h v' w' h2 h3 h4)
end

section
variable {w : World} {base : Nat} {e : TypeId} {size : Nat} {v : Value} {n : Nat} {xs : List Value}

/-- a row of the call's own: its value, and that it reads as its cells -/
theorem own_form (h : w.ownsRow base e size v n xs) : ∃ A c, v = .slice A n c ∧ n ≤ c ∧ c ≤ maxLen ∧ Sl w A xs ∧ (∀ g, A = some g → base ≤ g.block ∧ g.block < w.heap.size) := by
 have hl := h.1
 rcases h.2 with ⟨rfl, rfl⟩ | ⟨g, cap, cur, rfl, hb, hg, hnc, hcm, hs, htake⟩
 · exact ⟨none, 0, rfl, Nat.le_refl _, by simp [maxLen], fun hp => absurd hl (by omega), by simp⟩
 refine ⟨_, cap, rfl, hnc, hcm, fun hp => ⟨g, 0, rfl, fun j hj => ?_⟩, fun g' hg' => ?_⟩
 · rw [Nat.zero_add, cell_of_row w g j cur e (0, 0) hg]
   have hx : xs[j]? = some (xs.getD j undef) := by rw [List.getD_eq_getElem?_getD, List.getElem?_eq_getElem hj]; rfl
   generalize xs.getD j undef = u at hx ⊢
   rw [← htake, List.getElem?_take] at hx
   split at hx
   · simpa using hx
   cases hx
 injection hg' with hg'
 subst hg'
 exact ⟨hb, (Array.getElem?_eq_some_iff.1 hg).1⟩

end

section
variable {P : Program} (w : World)

/-- the same, all that was there when the call began (in the world w0) being kept -/
theorem wpList_append_in {ops : Array Oper} {rest : List Oper} {o : Oper} {a : Act} {Q : Exit → Act → World → Prop} (hgd : o.guard = none) (s x : Operand) (t : TypeId)
 (ho : o.op = .call { callee := .builtin .append, args := #[s, x], argTypes := #[t, t] })
 {w0 : World} (hB : Below w0.heap.size w0 w) (e : TypeId) (i : TypeInfo) (z : Value) (size bytes : Nat) (ht : P.underlying t = some (.slice e)) (hi : P.info? e = some i) (hz : i.zero = some z)
 (hsize : i.size = size) (hby : i.bytes = bytes) (hzs : z.cells.size = size) (hsz : 0 < size)
 (v : Value) (n : Nat) (xs : List Value) (hs : a.eval s = v) (hown : w.ownsRow w0.heap.size e size v n xs)
 (A : Option Addr) (m c : Nat) (news : List Value) (hx : a.eval x = .slice A m c) (hl : news.length = m * size) (hr : Sl w A news) (h1 : ∀ u ∈ news, u.oneCell' = true)
 (hmax : (n + m) * bytes ≤ 140737488355328) (hpos : 0 < bytes)
 (h : ∀ v' w', w'.ownsRow w0.heap.size e size v' (n + m) (xs ++ news) → Below w0.heap.size w0 w' → w.grownBy w' v.ownBlock → (v'.ownBlock = v.ownBlock ∨ v'.ownBlock = some w.heap.size) → wpList P ops Q rest (a.put o.dst v') w') : wpList P ops Q (o :: rest) a w :=
 wpList_append_sl w hgd s x t ho w0.heap.size e i z size bytes ht hi hz hsize hby hzs hsz v n xs hs hown A m c news hx hl hr h1
  (by
    have : n + m ≤ (n + m) * bytes := Nat.le_mul_of_pos_right _ hpos
    simp only [maxLen]; omega)
  hmax hB.size fun v' w' h2 h3 h4 => h v' w' h2 (hB.grown h3 hB.size fun k hk => (hown.lt k hk).1) h3 h4

end

/-- an empty row that has just been made -/
theorem own_empty {w0 w : World} (hB : Below w0.heap.size w0 w) (e : TypeId) (size : Nat) : (w.alloc (.cells #[] e)).ownsRow w0.heap.size e size (.slice (some ⟨w.heap.size, 0, none⟩) 0 0) 0 [] :=
 World.ownsRow_made w #[] 0 hB.size (by simp [maxLen]) (by simp)

theorem below_alloc {w0 w : World} (hB : Below w0.heap.size w0 w) (o : Obj) : Below w0.heap.size w0 (w.alloc o) := hB.alloc hB.size o
theorem below_drewN {B : Nat} {a w : World} (h : Below B a w) (n : Nat) : Below B a (w.drewN n) := ⟨h.os, h.tape, h.output, h.size, h.block⟩

/-- what the call owns reads as before behind a new block, behind an append onto another row -/
theorem own_sl {w : World} {base : Nat} {e : TypeId} {size n : Nat} {A : Option Addr} {c : Nat} {xs : List Value} (h : w.ownsRow base e size (.slice A n c) n xs) : Sl w A xs := by
 obtain ⟨A', c', hv, _, _, hs, _⟩ := own_form h
 injection hv with h1 _ _
 subst h1
 exact hs

theorem words_one (us : List (BitVec 64)) : ∀ u ∈ words us, u.oneCell' = true := by
 intro u hu
 simp only [words, List.mem_map] at hu
 obtain ⟨x, _, rfl⟩ := hu
 rfl
end Go.Proofs.YtikkmkomlajnfaaGreatDoor
end

section
namespace Go.Proofs.YtikkmkomlajnfaaGreatDoor
open Go.RowKit

/-- block g is just these cells, of element type t, none frozen -/
def Ob (w : World) (g : Nat) (t : TypeId) (cs : List Value) : Prop := w.heap[g]? = some (.cells cs.toArray t (0, 0))

/-- only block g may have turned, and new blocks may have come -/
abbrev Only (w w' : World) (g : Nat) : Prop := w.grownBy w' (some g)

section
variable {w w' : World} {g : Nat} {t : TypeId} {cs : List Value}

theorem Ob.lt (h : Ob w g t cs) : g < w.heap.size := by
 rcases Nat.lt_or_ge g w.heap.size with hlt | hge
 · exact hlt
 unfold Ob at h; rw [Array.getElem?_eq_none hge] at h; cases h
theorem Ob.cell (h : Ob w g t cs) (i : Nat) : w.cell? ⟨g, i, none⟩ = cs[i]? := by
 rw [cell_of_row w g i cs.toArray t (0, 0) h]; simp
theorem Ob.frozen (h : Ob w g t cs) (i : Nat) : w.frozen? ⟨g, i, none⟩ = false := by
 unfold Ob at h
 simp [World.frozen?, h]
theorem Ob.fresh (w : World) (t : TypeId) (cs : List Value) : Ob (w.alloc (.cells cs.toArray t)) w.heap.size t cs := heap_alloc_new w _
theorem Ob.drew (h : Ob w g t cs) : Ob w.drew g t cs := h
theorem Ob.drewN (h : Ob w g t cs) (n : Nat) : Ob (w.drewN n) g t cs := h
theorem Ob.alloc (h : Ob w g t cs) (o : Obj) : Ob (w.alloc o) g t cs := (Below.heap_alloc w o g h.lt).trans h
theorem Ob.set_ (h : Ob w g t cs) (i : Nat) (u : Value) : Ob (w.setCell ⟨g, i, none⟩ u) g t (cs.set i u) := by
 unfold Ob at h ⊢
 simp [World.setCell, Array.getElem?_modify, h]
theorem Ob.far (h : Ob w g t cs) {p : Addr} (hp : g ≠ p.block) (u : Value) : Ob (w.setCell p u) g t cs := (Below.heap_setCell w p u g hp).trans h
theorem Ob.below {B : Nat} (h : Ob w g t cs) (hb : Below B w w') (hg : g < B) : Ob w' g t cs := (hb.block g hg).trans h
theorem Ob.grown {row : Option Nat} (h : Ob w g t cs) (hb : w.grownBy w' row) (hg : some g ≠ row) : Ob w' g t cs := (hb.block g h.lt hg).trans h
theorem Ob.only {g' : Nat} (h : Ob w g t cs) (hb : Only w w' g') (hg : g ≠ g') : Ob w' g t cs := h.grown hb (by simpa using hg)
theorem Ob.ne_ {g' : Nat} {t' : TypeId} {cs' : List Value} (h : Ob w g t cs) (h' : Ob w g' t' cs') (hne : t ≠ t') : g ≠ g' := by
 rintro rfl
 unfold Ob at h h'
 rw [h] at h'
 injection h' with h'
 injection h' with _ ht
 exact hne ht
theorem Ob.same {cs' : List Value} (h : Ob w g t cs) (h' : Ob w g t cs') : cs = cs' := by
 unfold Ob at h h'
 rw [h] at h'
 injection h' with h'
 injection h' with hc _ _
 exact List.toArray_inj hc

theorem Only.refl (w : World) (g : Nat) : Only w w g := World.grownBy.refl w _
theorem Only.trans {a b c : World} {g : Nat} (h : Only a b g) (k : Only b c g) : Only a c g :=
 ⟨k.os.trans h.os, k.tape.trans h.tape, k.output.trans h.output, Nat.le_trans h.size k.size, fun i hi hn => (k.block i (Nat.lt_of_lt_of_le hi h.size) hn).trans (h.block i hi hn)⟩
theorem Only.drewN {a b : World} {g : Nat} (h : Only a b g) (n : Nat) : Only a (b.drewN n) g := ⟨h.os, h.tape, h.output, h.size, h.block⟩
theorem Only.drew {a b : World} {g : Nat} (h : Only a b g) : Only a b.drew g := ⟨h.os, h.tape, h.output, h.size, h.block⟩
theorem Only.alloc {a b : World} {g : Nat} (h : Only a b g) (o : Obj) : Only a (b.alloc o) g :=
 ⟨h.os, h.tape, h.output, Nat.le_trans h.size (by simp), fun i hi hne => (Below.heap_alloc b o i (Nat.lt_of_lt_of_le hi h.size)).trans (h.block i hi hne)⟩
theorem Only.setCell {a b : World} {g : Nat} (h : Only a b g) {p : Addr} (hp : p.block = g) (u : Value) : Only a (b.setCell p u) g :=
 ⟨h.os, h.tape, h.output, by simpa [World.setCell] using h.size, fun i hi hne => (Below.heap_setCell b p u i (by
  rintro rfl
  exact hne (by rw [hp]))).trans (h.block i hi hne)⟩
theorem Only.of_below {a b : World} (h : Below a.heap.size a b) (g : Nat) : Only a b g := ⟨h.os, h.tape, h.output, h.size, fun i hi _ => h.block i hi⟩
theorem Only.below {B : Nat} {a b c : World} {g : Nat} (h : Below B a b) (k : Only b c g) (hB : B ≤ b.heap.size) (hg : B ≤ g) : Below B a c :=
 h.grown k hB (by intro k hk; injection hk with hk; omega)
theorem Only.cell {a b : World} {g : Nat} (h : Only a b g) {p : Addr} {v : Value} (hc : a.cell? p = some v) (hp : p.block ≠ g) : b.cell? p = some v :=
 World.grownBy.cell h hc (by simpa using hp)
theorem Only.sl {a b : World} {g : Nat} {A : Option Addr} {xs : List Value} (h : Only a b g) (hs : Sl a A xs) (hne : ∀ p, A = some p → p.block ≠ g) : Sl b A xs := fun hn => by
 obtain ⟨b', o, e, hc⟩ := hs hn
 exact ⟨b', o, e, fun j hj => h.cell (hc j hj) (by simpa using hne _ e)⟩
theorem Only.size {a b : World} {g : Nat} (h : Only a b g) : a.heap.size ≤ b.heap.size := World.grownBy.size h
end

/-! numbers of an array as a function of the place -/
def arr (n : Nat) (ks : Nat → BitVec 64) : List Value := (List.range n).map fun j => .int .u64 (uv (ks j))
def upd (ks : Nat → BitVec 64) (j : Nat) (x : BitVec 64) : Nat → BitVec 64 := fun i => if i = j then x else ks i
theorem arr_length (n : Nat) (ks : Nat → BitVec 64) : (arr n ks).length = n := by simp [arr]
theorem arr_get (n : Nat) (ks : Nat → BitVec 64) (j : Nat) (h : j < n) : (arr n ks)[j]? = some (.int .u64 (uv (ks j))) := by simp [arr, h]
theorem arr_none (n : Nat) (ks : Nat → BitVec 64) (j : Nat) (h : ¬ j < n) : (arr n ks)[j]? = none := List.getElem?_eq_none (by rw [arr_length]; omega)
theorem arr_set (n : Nat) (ks : Nat → BitVec 64) (j : Nat) (x : BitVec 64) : (arr n ks).set j (.int .u64 (uv x)) = arr n (upd ks j x) := by
 apply List.ext_getElem?
 intro i
 rw [List.getElem?_set]
 by_cases hi : i < n
 · rw [arr_get n (upd ks j x) i hi]
   by_cases hj : j = i
   · subst hj
     rw [if_pos rfl, if_pos (by rw [arr_length]; exact hi)]
     simp [upd]
   rw [if_neg hj, arr_get n _ i hi]; simp [upd, Ne.symm hj]
 rw [arr_none n (upd ks j x) i hi]
 by_cases hj : j = i
 · rw [if_pos hj, if_neg (by rw [arr_length]; omega)]
 rw [if_neg hj, arr_none n ks i hi]
theorem arr_words (n : Nat) (ks : Nat → BitVec 64) : arr n ks = words ((List.range n).map ks) := by simp [arr, words, Function.comp_def]
theorem arr_congr {n : Nat} {ks ks' : Nat → BitVec 64} (h : ∀ j, j < n → ks j = ks' j) : arr n ks = arr n ks' := by
 unfold arr
 apply List.map_congr_left
 intro j hj
 rw [h j (by simpa using hj)]
theorem arr_one (n : Nat) (ks : Nat → BitVec 64) : ∀ u ∈ arr n ks, u.oneCell' = true := by rw [arr_words]; exact words_one _

section
variable {w : World} {g : Nat} {t : TypeId} {pre post : List Value} {n : Nat} {ks : Nat → BitVec 64}

theorem Ob.at_ (h : Ob w g t (pre ++ (arr n ks ++ post))) (j : Nat) (hj : j < n) : w.cell? ⟨g, pre.length + j, none⟩ = some (.int .u64 (uv (ks j))) := by
 rw [h.cell, List.getElem?_append_right (by omega), Nat.add_sub_cancel_left, List.getElem?_append_left (by rw [arr_length]; exact hj), arr_get n ks j hj]
theorem Ob.put (h : Ob w g t (pre ++ (arr n ks ++ post))) (j : Nat) (hj : j < n) (x : BitVec 64) : Ob (w.setCell ⟨g, pre.length + j, none⟩ (.int .u64 (uv x))) g t (pre ++ (arr n (upd ks j x) ++ post)) := by
 have h' := h.set_ (pre.length + j) (.int .u64 (uv x))
 rw [List.set_append_right _ _ (by omega), Nat.add_sub_cancel_left, List.set_append_left _ _ (by rw [arr_length]; exact hj), arr_set] at h'
 exact h'
end

/-- a row of the call's own that has elements, as a block known whole -/
theorem own_ob {w : World} {base : Nat} {e : TypeId} {v : Value} {n : Nat} {xs : List Value} (h : w.ownsRow base e 1 v n xs) (hn : 0 < n) :
 ∃ g cap rest, v = .slice (some ⟨g, 0, none⟩) n cap ∧ base ≤ g ∧ Ob w g e (xs ++ rest) ∧ n ≤ cap ∧ cap ≤ maxLen ∧ rest.length = cap - n ∧ xs.length = n := by
 obtain ⟨h1, h2⟩ := h
 rcases h2 with ⟨_, rfl⟩ | ⟨g, cap, cur, hv, hg, hh, hnc, hcm, hs, htake⟩
 · omega
 refine ⟨g, cap, cur.toList.drop (n * 1), hv, hg, ?_, hnc, hcm, by simp [hs], by omega⟩
 unfold Ob
 rw [hh, ← htake, List.take_append_drop]
theorem ob_own {w : World} {base g : Nat} {e : TypeId} {n cap : Nat} {xs rest : List Value} (h : Ob w g e (xs ++ rest)) (hb : base ≤ g) (hx : xs.length = n) (hnc : n ≤ cap) (hcm : cap ≤ maxLen) (hr : rest.length = cap - n) :
 w.ownsRow base e 1 (.slice (some ⟨g, 0, none⟩) n cap) n xs :=
 ⟨by omega, .inr ⟨g, cap, (xs ++ rest).toArray, rfl, hb, h, hnc, hcm, by simp; omega, by simp [hx]⟩⟩

theorem own_base {w : World} {b b' : Nat} {e : TypeId} {size : Nat} {v : Value} {n : Nat} {xs : List Value} (h : w.ownsRow b e size v n xs) (hb : b' ≤ b) : w.ownsRow b' e size v n xs := by
 obtain ⟨h1, h2⟩ := h
 refine ⟨h1, ?_⟩
 rcases h2 with h2 | ⟨g, cap, cur, hv, hg, r⟩
 · exact .inl h2
 exact .inr ⟨g, cap, cur, hv, by omega, r⟩

end Go.Proofs.YtikkmkomlajnfaaGreatDoor
end

section
namespace Go.Proofs.YtikkmkomlajnfaaGreatDoor
open Go.RowKit
theorem spa {α : Type} (l : List α) (i : Nat) (a : α) : l.toArray.setIfInBounds i a = (l.set i a).toArray := List.setIfInBounds_toArray l i a
theorem spb {α : Type} {x : α} {xs : List α} {a : α} : (x :: xs).set 0 a = a :: xs := List.set_cons_zero
theorem spc {α : Type} {x : α} {xs : List α} {i : Nat} {a : α} : (x :: xs).set (i + 1) a = x :: xs.set i a := List.set_cons_succ
theorem gpa {α : Type} {xs : List α} {i : Nat} (h : i < xs.toArray.size) : xs.toArray[i] = xs[i] := List.getElem_toArray h
theorem gpb {α : Type} (a : α) (as : List α) (i : Nat) (h : i + 1 < (a :: as).length) : (a :: as)[i + 1] = as[i]'(Nat.lt_of_succ_lt_succ h) := List.getElem_cons_succ a as i h
theorem gpc {α : Type} (a : α) (as : List α) (h : 0 < (a :: as).length) : (a :: as)[0] = a := List.getElem_cons_zero a as h
section
variable {P : Program} {ops : Array Oper} {Q : Exit → Act → World → Prop} {md : Region.Mode} {S : World → Prop} {fuel : Nat} {listed : Array Bool} {a : Act} {w : World} {v : Value}
/-- one operation of a region that draws its order is taken first -/
theorem tkq (i d : Nat) {op : Op} {ty : TypeId} {pos : String} {af : Array Edge} {gd : Option (Nat × Bool)} (hi : ops[i]? = some ⟨some d, op, ty, pos, af, gd⟩) (hh : (Region.noSelect ops && Region.free md ops listed i && (Region.ready md ops listed).contains i) = true)
    (hw : Region.wanted ⟨some d, op, ty, pos, af, gd⟩ (yielded ops a.tmps) = true) (hS : S w) (hQ : ∀ c a w, Q (.panic c) (a.put (some d) v) w → Q (.panic c) a w) (hy : ∀ w, S w → (execOp a.eval ⟨some d, op, ty, pos, af, gd⟩).run P w = .ok (.value v) w)
    (h : wpAnyH P md ops Q S fuel (listed.setIfInBounds i true) (a.put (some d) v) w) : wpAnyH P md ops Q S (fuel + 1) listed a w := by
  rw [Bool.and_eq_true, Bool.and_eq_true] at hh
  exact wpAnyH_take hi hh.1.1 hh.1.2 hh.2 hQ (Or.inl ⟨hw, hy⟩) hS h
/-- one operation alone may come up -/
theorem rdq (i : Nat) (o : Oper) (hr : Region.ready md ops listed = [i]) (ho : ops[i]? = some o)
    (h : ∀ K' : Act → World → Prop, Shut (∀ a w, S w → (S w → wpAnyH P md ops Q S fuel (listed.setIfInBounds i true) a w) → K' a w) → if Region.wanted o (yielded ops a.tmps) = true then Oper.wp P o a w K' Q else K' (a.put o.dst undef) w) :
    wpAnyH P md ops Q S (fuel + 1) listed a w := wpAnyH_ready hr (by simp) (AllReadyH.cons ho h AllReadyH.nil)
end
section
variable {w : World} {g : Nat} {t : TypeId} {a b c d e f x y : Value} {r : List Value}
theorem Ob.c0 (h : Ob w g t (x :: r)) : w.cell? ⟨g, 0, none⟩ = some x := h.cell 0
theorem Ob.c1 (h : Ob w g t (a :: x :: r)) : w.cell? ⟨g, 1, none⟩ = some x := h.cell 1
theorem Ob.c2 (h : Ob w g t (a :: b :: x :: r)) : w.cell? ⟨g, 2, none⟩ = some x := h.cell 2
theorem Ob.c3 (h : Ob w g t (a :: b :: c :: x :: r)) : w.cell? ⟨g, 3, none⟩ = some x := h.cell 3
theorem Ob.c4 (h : Ob w g t (a :: b :: c :: d :: x :: r)) : w.cell? ⟨g, 4, none⟩ = some x := h.cell 4
theorem Ob.c5 (h : Ob w g t (a :: b :: c :: d :: e :: x :: r)) : w.cell? ⟨g, 5, none⟩ = some x := h.cell 5
theorem Ob.c6 (h : Ob w g t (a :: b :: c :: d :: e :: f :: x :: r)) : w.cell? ⟨g, 6, none⟩ = some x := h.cell 6
end
end Go.Proofs.YtikkmkomlajnfaaGreatDoor
end

section
namespace Go.Proofs.YtikkmkomlajnfaaGreatDoor
open Go.RowKit Go.ChangeShapes Go.WideShapes Go.ChangeAt

theorem reach_eq : reachBytes = 140737488351232 := rfl

/-- a slice that came in reads as the numbers ns -/
def RdInts (k : IntKind) (w : World) (v : Value) (ns : List Int) : Prop :=
 (∃ A c, v = .slice A ns.length c ∧ ns.length ≤ c ∧ Sl w A (ns.map (Value.int k))) ∧ (∀ n ∈ ns, (Lit.int k n).wf = true) ∧ ns.length * 8 ≤ 140737488351232

def RdWords (w : World) (v : Value) (us : List (BitVec 64)) : Prop :=
 (∃ A c, v = .slice A us.length c ∧ us.length ≤ c ∧ Sl w A (words us)) ∧ us.length * 8 ≤ 140737488351232

theorem words_of_wf : ∀ (ns : List Int), (∀ n ∈ ns, (Lit.int .u64 n).wf = true) → ∃ us : List (BitVec 64), ns = us.map uv
 | [], _ => ⟨[], rfl⟩
 | n :: r, h => by
   obtain ⟨u, hu⟩ := uv_of_wf (h n (by simp))
   obtain ⟨us, hus⟩ := words_of_wf r fun m hm => h m (by simp [hm])
   exact ⟨u :: us, by simp [← hu, ← hus]⟩

theorem RdInts.words {w : World} {v : Value} {ns : List Int} (h : RdInts .u64 w v ns) : ∃ us, RdWords w v us ∧ ns = us.map uv := by
 obtain ⟨⟨A, c, rfl, hc, hs⟩, hw, hr⟩ := h
 obtain ⟨us, rfl⟩ := words_of_wf ns hw
 refine ⟨us, ⟨⟨A, c, by simp, by simpa using hc, ?_⟩, by simpa using hr⟩, rfl⟩
 rw [← uv_words (us.map uv) us rfl]
 exact hs

/-- how many elements the datum of a slice has -/
def DLen {H : Type} (d : DataW H) (n : Nat) : Prop := (d = .nil ∧ n = 0) ∨ ∃ elems spare, d = .slice elems spare ∧ elems.length = n

section
variable {H : Type} {enc : TypeId × Value → H} {P : Program} {w : World} {base : Nat} {spare : Nat → Bool} {held : Bool}

theorem addr_add (a : Addr) (h : a.spot = none) (i : Nat) : a.add i = ⟨a.block, a.off + i, none⟩ := by
 obtain ⟨b, o, s⟩ := a
 simp only at h
 subst h
 unfold Addr.add
 split <;> simp_all

theorem spot_of_cell {a : Addr} {v : Value} (h : w.cell? a = some v) : a.spot = none := by
 unfold World.cell? at h
 split at h
 · split at h
   · cases h
   rename_i hs; simpa using hs
 cases h

theorem open_numbers {t e : TypeId} {k : IntKind} {fuel : Nat} {v : Value} {x : DataW H × List MemPlace} (ht : P.underlying t = some (.slice e)) (he : P.underlying e = some (.int k)) (hC : P.cellsOf e = 1)
 (hB : P.bytesOf e = 8) (h : DataW.trod enc P w base spare held fuel t [v] = some x) (hsz : ∀ y ∈ DataW.weights P t x.1, y ≤ reachBytes) : ∃ ns, RdInts k w v ns ∧ DLen x.1 ns.length := by
 rcases open_ints ht he hC h with ⟨hcs, hx0⟩ | ⟨a, len, cap, zs, hcs, _, hl, hm, hz, hx, hcell, hwz⟩
 · obtain rfl : v = .slice none 0 0 := by simpa using hcs
   exact ⟨[], ⟨⟨none, 0, rfl, by simp, Sl.nil _ _⟩, by simp, by simp⟩, .inl ⟨by rw [hx0], rfl⟩⟩
 obtain rfl : v = .slice (some a) len cap := by simpa using hcs
 have hzl : len ≤ zs.length := by rw [hz]; split <;> omega
 have hlen : (zs.take len).length = len := by rw [List.length_take]; omega
 have hw : (lits (H := H) k (zs.take len)).length * 8 ≤ reachBytes := by
  have := hsz (((lits (H := H) k (zs.take len)).length + (lits (H := H) k (zs.drop len)).length) * 8) (by rw [hx]; simp [DataW.weights, ht, hB])
  omega
 rw [reach_eq] at hw
 refine ⟨zs.take len, ⟨⟨some a, cap, by rw [hlen], by omega, fun hp => ?_⟩, fun n hn => hwz n (List.mem_of_mem_take hn), by simpa [lits] using hw⟩, .inr ⟨_, _, by rw [hx], by simp [lits]⟩⟩
 have h0 := hcell 0 (by rw [List.length_map, hlen] at hp; omega)
 have hs : a.spot = none := by
  have := spot_of_cell h0
  unfold Addr.add at this
  split at this
  · exact this
  simp_all
 refine ⟨a.block, a.off, by rw [← hs], fun j hj => ?_⟩
 have hj' : j < len := by rw [List.length_map, hlen] at hj; exact hj
 have hc := hcell j (by omega)
 rw [addr_add a hs] at hc
 rw [hc]
 simp only [List.getD_eq_getElem?_getD, List.getElem?_map, List.getElem?_take, if_pos hj']
 rw [List.getElem?_eq_getElem (show j < zs.length by omega)]
 rfl

end

end Go.Proofs.YtikkmkomlajnfaaGreatDoor
end

section
namespace Go.Proofs.YtikkmkomlajnfaaGreatDoor
open Go.RowKit Go.ChangeShapes Go.WideShapes Go.ChangeAt Go.Deep

section
variable {H : Type} {enc : TypeId × Value → H} {P : Program} {w : World} {base : Nat} {spare : Nat → Bool} {held : Bool}

end

end Go.Proofs.YtikkmkomlajnfaaGreatDoor
end

section
namespace Go.Proofs.YtikkmkomlajnfaaGreatDoor
open Go.RowKit Go.ChangeShapes Go.WideShapes Go.ChangeAt Go.Deep

theorem flat_length {α : Type} (f : α → List Value) (C : Nat) (hf : ∀ a, (f a).length = C) (l : List α) : (l.flatMap f).length = l.length * C := by
 induction l with
 | nil => simp
 | cons a r ih => rw [List.flatMap_cons, List.length_append, ih, hf, List.length_cons, Nat.add_mul, Nat.one_mul, Nat.add_comm]
theorem flat_get {α : Type} (d : α) (f : α → List Value) (C : Nat) (hf : ∀ a, (f a).length = C) : ∀ (l : List α) (i j : Nat), i < l.length → j < C → (l.flatMap f)[i * C + j]? = (f (l.getD i d))[j]?
 | a :: r, 0, j, _, hj => by
   rw [List.flatMap_cons, Nat.zero_mul, Nat.zero_add, List.getElem?_append_left (by rw [hf]; exact hj)]
   rfl
 | a :: r, i + 1, j, hi, hj => by
   rw [List.flatMap_cons, List.getElem?_append_right (by rw [hf, Nat.add_mul]; omega), hf, show (i + 1) * C + j - C = i * C + j from by rw [Nat.add_mul]; omega]
   exact flat_get d f C hf r i j (by simpa using hi) hj

theorem exists_list' {α : Type} (d : α) (P : Nat → α → Prop) : ∀ n, (∀ i, i < n → ∃ x, P i x) → ∃ l : List α, l.length = n ∧ ∀ i, i < n → P i (l.getD i d)
 | 0, _ => ⟨[], rfl, fun i hi => absurd hi (by omega)⟩
 | n + 1, h => by
   obtain ⟨l, hl, hp⟩ := exists_list' d P n fun i hi => h i (by omega)
   obtain ⟨x, hx⟩ := h n (by omega)
   refine ⟨l ++ [x], by simp [hl], fun i hi => ?_⟩
   rw [List.getD_eq_getElem?_getD]
   by_cases hn : i < n
   · rw [List.getElem?_append_left (by omega), ← List.getD_eq_getElem?_getD]; exact hp i hn
   obtain rfl : i = n := by omega
   rw [List.getElem?_append_right (by omega), hl]; simpa using hx

/-- a slice of elements, each of C cells, that came in -/
def RdRow {α : Type} (f : α → List Value) (bytes : Nat) (w : World) (v : Value) (l : List α) : Prop :=
 ∃ A c, v = .slice A l.length c ∧ l.length ≤ c ∧ l.length * bytes ≤ 140737488351232 ∧ Sl w A (l.flatMap f)

theorem open_rows {H : Type} {enc : TypeId × Value → H} {P : Program} {w : World} {base : Nat} {spare : Nat → Bool} {held : Bool} {α : Type} (d : α) (f : α → List Value) (C : Nat) (hf : ∀ a, (f a).length = C) (hC0 : 0 < C)
 {t e : TypeId} {fuel : Nat} {v : Value} {x : DataW H × List MemPlace} (ht : P.underlying t = some (.slice e)) (hC : P.cellsOf e = C)
 (hel : ∀ fuel cs x, DataW.trod enc P w base spare held fuel e cs = some x → ∃ a, cs = f a) (h : DataW.trod enc P w base spare held fuel t [v] = some x) (hsz : ∀ y ∈ DataW.weights P t x.1, y ≤ reachBytes) :
 ∃ l : List α, RdRow f (P.bytesOf e) w v l := by
 rcases open_slice ht h with ⟨h0, hx0⟩ | ⟨a, len, cap, m, n, D, Pl, hcs, hb, hl, hm, hmm, hx, hi⟩
 · obtain rfl : v = .slice none 0 0 := by simpa using h0
   exact ⟨[], none, 0, rfl, Nat.le_refl _, by simp, Sl.nil _ _⟩
 obtain rfl : v = .slice (some a) len cap := by simpa using hcs
 have hlm : len ≤ m := by rw [hmm]; split <;> omega
 have hw0 : (len + (m - len)) * P.bytesOf e ≤ reachBytes := hsz _ (by rw [hx]; simp [DataW.weights, ht])
 rw [reach_eq] at hw0
 have hw : len * P.bytesOf e ≤ 140737488351232 := Nat.le_trans (Nat.mul_le_mul_right _ (Nat.le_add_right _ _)) hw0
 obtain ⟨l, hll, hlp⟩ := exists_list' d (fun i (y : α) => ∀ j, j < C → w.cell? (a.add (i * C + j)) = (f y)[j]?) len fun i hil => by
  obtain ⟨cs', hc, ht'⟩ := hi i (by omega)
  rw [hC] at hc
  obtain ⟨_, hcl, hat⟩ := World.cells?_some hc
  obtain ⟨y, rfl⟩ := hel _ _ _ ht'
  exact ⟨y, fun j hj => by rw [← hat j hj, Go.Deep.add_add]⟩
 refine ⟨l, some a, cap, by rw [hll], by omega, by rw [hll]; exact hw, fun hp => ?_⟩
 rw [flat_length f C hf, hll] at hp
 have hlen0 : 0 < len := Nat.pos_of_ne_zero fun e => by rw [e] at hp; simp at hp
 have hc0 := hlp 0 hlen0 0 hC0
 have hv0 : (f (l.getD 0 d))[0]? = some ((f (l.getD 0 d))[0]'(by rw [hf]; exact hC0)) := List.getElem?_eq_getElem _
 rw [hv0] at hc0
 have hs : a.spot = none := by
  have := spot_of_cell hc0
  unfold Addr.add at this
  split at this
  · exact this
  simp_all
 refine ⟨a.block, a.off, by rw [← hs], fun j hj => ?_⟩
 rw [flat_length f C hf, hll] at hj
 have hq : j / C < len := Nat.div_lt_of_lt_mul (by rw [Nat.mul_comm]; exact hj)
 have hr : j % C < C := Nat.mod_lt _ hC0
 have hjj : j / C * C + j % C = j := by rw [Nat.mul_comm]; exact Nat.div_add_mod j C
 have h1 := hlp (j / C) hq (j % C) hr
 rw [hjj, addr_add a hs] at h1
 have h2 := flat_get d f C hf l (j / C) (j % C) (by omega) hr
 rw [hjj] at h2
 have he : (l.flatMap f).getD j undef = ((l.flatMap f)[j]?).getD undef := List.getD_eq_getElem?_getD ..
 rw [h1, he, h2]
 rw [List.getElem?_eq_getElem (by rw [hf]; exact hr)]
 rfl

end Go.Proofs.YtikkmkomlajnfaaGreatDoor
end
