/-
  DERIVED: THE SHELF's CONTRACTS AT THIS DUMP, IN PLAIN WORDS (tools/lay-plain.mjs out of 'TryzShelf.lean', which tools/lay-shelf.mjs wrote): THE SAME DECLARATIONS UNDER THE SAME NAMES: 'import', 'namespace', 'open', 'def', 'theorem' AND NOTHING ELSE: no command of the shelf's: FOR A HAND-IN. Each laying: the table of numbers ('.._ren') and one theorem, a field a fact of the dump's own or the kernel's comparison; each contract: ONE APPLICATION.
  Numerals, words parted by a blank, lines. Plain.
-/
import Derived.Shelf.Strings.Builder1
import Derived.Shelf.Strings.Builder2
import Derived.Shelf.Strings.OnBuilder
import Derived.Shelf.Strings.BuilderF
import Derived.Shelf.Strings.BuilderK
import Derived.Shelf.Strconv.Itoa0
import Derived.Shelf.Strconv.Itoa1
import Derived.Shelf.LaysM
import Derived.Shelf.Strconv.Itoa2
import Derived.Shelf.Strconv.Itoa3
import Derived.Shelf.Strconv.Itoa4
import Derived.Shelf.Strconv.ParseIntEmpty
import Derived.Shelf.Strconv.Clone
import Derived.Shelf.Strconv.SyntaxError
import Derived.Shelf.LaysC
import Derived.Shelf.Strconv.ToError
import Derived.Shelf.Strconv.Lower
import Derived.Shelf.Strconv.ParseUint10
import Derived.Shelf.Strconv.ParseUint10Empty
import Derived.Shelf.Strconv.ParseUint10Any
import Derived.Shelf.Strconv.ParseInt10
import Derived.Shelf.Strconv.RangeError
import Derived.Shelf.Strconv.ToErrorRange
import Derived.Shelf.Strconv.ParseUintEmpty
import Derived.Shelf.Strconv.ParseUint10b64
import Derived.Shelf.Strconv.ParseUint10b32
import Derived.Shelf.Strconv.ParseUint10b16
import Derived.Shelf.Strconv.ParseUint10b8
import Derived.Shelf.Strconv.ParseUint10At
import Derived.Shelf.Strconv.ParseInt10At64
import Derived.Shelf.Strconv.ParseInt10At32
import Derived.Shelf.Strconv.ParseInt10At16
import Derived.Shelf.Strconv.ParseInt10At8
import Derived.Shelf.Strconv.ParseInt10All
import Derived.Shelf.Strconv.ParseIntPublic10
import Derived.Shelf.Strconv.ErrVarParseInt
import Derived.Shelf.Strings.Search1
import Derived.Shelf.Strings.Search2
import Derived.Shelf.Strings.Search3
import Derived.Shelf.Strings.Cut
import Derived.Shelf.Strings.Count
import Derived.Shelf.Strings.Shaped
import Derived.Shelf.Strings.Split
import Derived.Shelf.Strings.SplitShaped
import Derived.Shelf.Bits.Mul64
import Derived.Shelf.Unicode.DecodeSlow
import Derived.Shelf.Slices.Equal
import Derived.Test.YtikkmkomlajnfaaGreatDoorProg
import Derived.Lib.ParseIntB
import Derived.Lib.ItoaNum
import Derived.Lib.Split
import Derived.Lib.Join
set_option linter.unusedVariables false
set_option linter.unusedSimpArgs false
section
namespace Go.Proofs
open Go.Shelf
def Tryz.lays169_ren : Go.Shelf.Ren := ⟨fun | 169 => 16 | n => n, fun | 70 => 61 | 9 => 9 | 0 => 0 | 72 => 63 | 37 => 37 | 127 => 104 | 3 => 3 | 5 => 5 | n => n, fun | n => n⟩
theorem Tryz.lays169 : Go.Proofs.Lays.n169 Tryz.prog Tryz.lays169_ren := {
 mixed := by kernel_rfl
 f169 := Tryz.func16.trans (congrArg some (by kernel_rfl))
 t0 := Tryz.underlying0
 a0 := Tryz.isAgg0
 z0 := Tryz.sizeOf0
 v0 := Tryz.zeroValue0
 t3 := Tryz.underlying3
 a3 := Tryz.isAgg3
 z3 := Tryz.sizeOf3
 v3 := Tryz.zeroValue3
 t9 := Tryz.underlying9
 a9 := Tryz.isAgg9
 z9 := Tryz.sizeOf9
 v9 := Tryz.zeroValue9
 t37 := Tryz.underlying37
 a37 := Tryz.isAgg37
 z37 := Tryz.sizeOf37
 v37 := Tryz.zeroValue37
 t70 := Tryz.underlying61
 a70 := Tryz.isAgg61
 z70 := Tryz.sizeOf61
 v70 := Tryz.zeroValue61
 t72 := Tryz.underlying63
 a72 := Tryz.isAgg63
 z72 := Tryz.sizeOf63
 v72 := Tryz.zeroValue63
 t127 := Tryz.underlying104
 a127 := Tryz.isAgg104
 z127 := Tryz.sizeOf104
 v127 := Tryz.zeroValue104 }
theorem Tryz.Builder_Extra_169 : Builder.Extra Tryz.prog Tryz.lays169_ren := {
 sizeBuilder := by kernel_rfl
 liesBuilder := by kernel_rfl
 t5 := Tryz.underlying5
 a5 := Tryz.isAgg5
 z5 := Tryz.sizeOf5
 v5 := Tryz.zeroValue5
 infoByte := by kernel_rfl
 cellsByte := by kernel_rfl
 sizeByte := by kernel_rfl
 neB5 := by decide }
open Go.RowKit in
open Go.RowKit in
open Go.RowKit in
/-- (*strings.Builder).String: "String returns the accumulated string.": WHATEVER THE BUILDER HOLDS. (LAID: no walk: one application.) -/
theorem Tryz.Builder_String_any (B b : Nat) (l : List UInt8) (w : World) (h : Lib.IsBuilder 63 5 B b (Lib.byteCells l) w) (hBw : B ≤ w.heap.size) :
 Calls Tryz.prog 16 #[.pointer (some ⟨b, 0, none⟩)] w fun e w' => e = .returned (.string ⟨l.toArray⟩) ∧ Below B w w' := Any.Builder_String_any Tryz.lays169 Tryz.Builder_Extra_169 B b l w h hBw
open Go.RowKit in
open Go.RowKit in
def Tryz.lays156_ren : Go.Shelf.Ren := ⟨fun | 156 => 41 | 165 => 69 | 166 => 14 | 169 => 16 | 240 => 35 | 241 => 105 | 276 => 66 | 277 => 139 | n => n, fun | 31 => 100 | 9 => 9 | 3 => 3 | 4 => 4 | 0 => 0 | 20 => 20 | 72 => 63 | 76 => 66 | 70 => 61 | 37 => 37 | 75 => 65 | 127 => 104 | 164 => 163 | 5 => 5 | 80 => 69 | n => n, fun | n => n⟩
theorem Tryz.lays156 : Go.Proofs.Lays.n156 Tryz.prog Tryz.lays156_ren := {
 mixed := by kernel_rfl
 f156 := Tryz.func41.trans (congrArg some (by kernel_rfl))
 f165 := Tryz.func69.trans (congrArg some (by kernel_rfl))
 f166 := Tryz.func14.trans (congrArg some (by kernel_rfl))
 f169 := Tryz.func16.trans (congrArg some (by kernel_rfl))
 f240 := Tryz.func35.trans (congrArg some (by kernel_rfl))
 f241 := Tryz.func105.trans (congrArg some (by kernel_rfl))
 f276 := Tryz.func66.trans (congrArg some (by kernel_rfl))
 f277 := Tryz.func139.trans (congrArg some (by kernel_rfl))
 t0 := Tryz.underlying0
 a0 := Tryz.isAgg0
 z0 := Tryz.sizeOf0
 v0 := Tryz.zeroValue0
 t3 := Tryz.underlying3
 a3 := Tryz.isAgg3
 z3 := Tryz.sizeOf3
 v3 := Tryz.zeroValue3
 t4 := Tryz.underlying4
 a4 := Tryz.isAgg4
 z4 := Tryz.sizeOf4
 v4 := Tryz.zeroValue4
 t9 := Tryz.underlying9
 a9 := Tryz.isAgg9
 z9 := Tryz.sizeOf9
 v9 := Tryz.zeroValue9
 t20 := Tryz.underlying20
 a20 := Tryz.isAgg20
 z20 := Tryz.sizeOf20
 v20 := Tryz.zeroValue20
 t31 := Tryz.underlying100
 a31 := Tryz.isAgg100
 z31 := Tryz.sizeOf100
 v31 := Tryz.zeroValue100
 t37 := Tryz.underlying37
 a37 := Tryz.isAgg37
 z37 := Tryz.sizeOf37
 v37 := Tryz.zeroValue37
 t70 := Tryz.underlying61
 a70 := Tryz.isAgg61
 z70 := Tryz.sizeOf61
 v70 := Tryz.zeroValue61
 t72 := Tryz.underlying63
 a72 := Tryz.isAgg63
 z72 := Tryz.sizeOf63
 v72 := Tryz.zeroValue63
 t75 := Tryz.underlying65
 a75 := Tryz.isAgg65
 z75 := Tryz.sizeOf65
 v75 := Tryz.zeroValue65
 t76 := Tryz.underlying66
 a76 := Tryz.isAgg66
 z76 := Tryz.sizeOf66
 v76 := Tryz.zeroValue66
 t127 := Tryz.underlying104
 a127 := Tryz.isAgg104
 z127 := Tryz.sizeOf104
 v127 := Tryz.zeroValue104
 t164 := Tryz.underlying163
 a164 := Tryz.isAgg163
 z164 := Tryz.sizeOf163
 v164 := Tryz.zeroValue163 }
theorem Tryz.Builder_Extra_156 : Builder.Extra Tryz.prog Tryz.lays156_ren := {
 sizeBuilder := by kernel_rfl
 liesBuilder := by kernel_rfl
 t5 := Tryz.underlying5
 a5 := Tryz.isAgg5
 z5 := Tryz.sizeOf5
 v5 := Tryz.zeroValue5
 infoByte := by kernel_rfl
 cellsByte := by kernel_rfl
 sizeByte := by kernel_rfl
 neB5 := by decide }
open Go.RowKit in
open Go.RowKit in
/-- strings.Join: "Join concatenates the elements of its first argument to create a single string. The separator string sep is placed between elements in the resulting string.": HOWEVER MANY ELEMENTS. Below the heap's end the world is as it was. (LAID: no walk: one application.) -/
theorem Tryz.strings_Join (bk o c : Nat) (xs : List ByteArray) (sep : ByteArray) (w : World) (hcells : ∀ (j : Nat) x, xs[j]? = some x → w.cell? ⟨bk, o + j, none⟩ = some (.string x)) (hbk : bk < w.heap.size) (hN : xs.length ≤ 140737488355328) (hcap : xs.length ≤ c) (hlen : (Lib.join (xs.map (·.data.toList)) sep.data.toList).length ≤ 140737488355328) :
 Calls Tryz.prog 41 #[.slice (some ⟨bk, o, none⟩) xs.length c, .string sep] w fun e w' => e = .returned (.string ⟨(Lib.join (xs.map (·.data.toList)) sep.data.toList).toArray⟩) ∧ Below w.heap.size w w' := Any.strings_Join Tryz.lays156 Tryz.Builder_Extra_156 bk o c xs sep w hcells hbk hN hcap hlen
open Go.RowKit in
open Go.RowKit in
open Go.RowKit in
open Go.RowKit in
open Go.RowKit in
open Go.RowKit in
open Go.Lib in
open Go.Lib in
open Go.Lib in
open Go.Lib in
open Go.RowKit Go.Sort Go.Lib in
open Go.RowKit Go.Sort Go.Lib in
open Go.RowKit Go.Sort Go.Lib in
open Go.RowKit Go.Sort Go.Lib in
open Go.RowKit Go.Sort Go.Lib in
def Tryz.laysM171_ren : Go.Shelf.Ren := ⟨fun | 171 => 39 | 243 => 67 | 246 => 68 | 283 => 101 | 284 => 102 | 285 => 103 | 286 => 104 | 129 => 135 | 317 => 134 | 318 => 136 | 319 => 137 | 320 => 138 | 337 => 152 | 338 => 153 | n => n, fun | 3 => 3 | 9 => 9 | 2 => 2 | 4 => 4 | 171 => 202 | 0 => 0 | 53 => 26 | 37 => 37 | 5 => 5 | 173 => 205 | 212 => 233 | 51 => 234 | 20 => 20 | 213 => 235 | 46 => 108 | 232 => 258 | 233 => 259 | n => n, fun | 17 => 2 | 18 => 6 | 19 => 7 | n => n⟩
theorem Tryz.laysM171 : Go.Proofs.LaysM.n171 Tryz.prog Tryz.laysM171_ren := {
 mixed := by kernel_rfl
 f129 := Tryz.func135.trans (congrArg some (by kernel_rfl))
 f171 := Tryz.func39.trans (congrArg some (by kernel_rfl))
 f243 := Tryz.func67.trans (congrArg some (by kernel_rfl))
 f246 := Tryz.func68.trans (congrArg some (by kernel_rfl))
 f283 := Tryz.func101.trans (congrArg some (by kernel_rfl))
 f284 := Tryz.func102.trans (congrArg some (by kernel_rfl))
 f285 := Tryz.func103.trans (congrArg some (by kernel_rfl))
 f286 := Tryz.func104.trans (congrArg some (by kernel_rfl))
 f317 := Tryz.func134.trans (congrArg some (by kernel_rfl))
 f318 := Tryz.func136.trans (congrArg some (by kernel_rfl))
 f319 := Tryz.func137.trans (congrArg some (by kernel_rfl))
 f320 := Tryz.func138.trans (congrArg some (by kernel_rfl))
 f337 := Tryz.func152.trans (congrArg some (by kernel_rfl))
 f338 := Tryz.func153.trans (congrArg some (by kernel_rfl))
 t0 := Tryz.underlying0
 a0 := Tryz.isAgg0
 z0 := Tryz.sizeOf0
 v0 := Tryz.zeroValue0
 t2 := Tryz.underlying2
 a2 := Tryz.isAgg2
 z2 := Tryz.sizeOf2
 v2 := Tryz.zeroValue2
 t3 := Tryz.underlying3
 a3 := Tryz.isAgg3
 z3 := Tryz.sizeOf3
 v3 := Tryz.zeroValue3
 t4 := Tryz.underlying4
 a4 := Tryz.isAgg4
 z4 := Tryz.sizeOf4
 v4 := Tryz.zeroValue4
 t5 := Tryz.underlying5
 a5 := Tryz.isAgg5
 z5 := Tryz.sizeOf5
 v5 := Tryz.zeroValue5
 t9 := Tryz.underlying9
 a9 := Tryz.isAgg9
 z9 := Tryz.sizeOf9
 v9 := Tryz.zeroValue9
 t20 := Tryz.underlying20
 a20 := Tryz.isAgg20
 z20 := Tryz.sizeOf20
 v20 := Tryz.zeroValue20
 t37 := Tryz.underlying37
 a37 := Tryz.isAgg37
 z37 := Tryz.sizeOf37
 v37 := Tryz.zeroValue37
 t46 := Tryz.underlying108
 a46 := Tryz.isAgg108
 z46 := Tryz.sizeOf108
 v46 := Tryz.zeroValue108
 t51 := Tryz.underlying234
 a51 := Tryz.isAgg234
 z51 := Tryz.sizeOf234
 v51 := Tryz.zeroValue234
 t53 := Tryz.underlying26
 a53 := Tryz.isAgg26
 z53 := Tryz.sizeOf26
 v53 := Tryz.zeroValue26
 t171 := Tryz.underlying202
 a171 := Tryz.isAgg202
 z171 := Tryz.sizeOf202
 v171 := Tryz.zeroValue202
 t173 := Tryz.underlying205
 a173 := Tryz.isAgg205
 z173 := Tryz.sizeOf205
 v173 := Tryz.zeroValue205
 t212 := Tryz.underlying233
 a212 := Tryz.isAgg233
 z212 := Tryz.sizeOf233
 v212 := Tryz.zeroValue233
 t213 := Tryz.underlying235
 a213 := Tryz.isAgg235
 z213 := Tryz.sizeOf235
 t232 := Tryz.underlying258
 a232 := Tryz.isAgg258
 z232 := Tryz.sizeOf258
 v232 := Tryz.zeroValue258
 t233 := Tryz.underlying259
 a233 := Tryz.isAgg259
 z233 := Tryz.sizeOf259
 v233 := Tryz.zeroValue259
 g17 := by kernel_rfl
 g18 := by kernel_rfl
 g19 := by kernel_rfl
 i0 := by kernel_rfl
 i2 := by kernel_rfl
 i3 := by kernel_rfl
 i4 := by kernel_rfl
 i5 := by kernel_rfl
 i9 := by kernel_rfl
 i20 := by kernel_rfl
 i37 := by kernel_rfl
 i46 := by kernel_rfl
 i51 := by kernel_rfl
 i53 := by kernel_rfl
 i171 := by kernel_rfl
 i173 := by kernel_rfl
 i212 := by kernel_rfl
 i232 := by kernel_rfl
 i233 := by kernel_rfl
 m17 := by kernel_rfl
 m18 := by kernel_rfl
 m19 := by kernel_rfl }
open Go.RowKit Go.Sort Go.Lib in
/-- strconv.Itoa: "Itoa is equivalent to FormatInt(int64(i), 10).": i's DECIMAL NUMERAL ('Lib.itoa': a '-' where i is negative, then the digits), FOR EVERY int. The world behind the call: the world before it, new blocks behind the heap (the library's 'var a [24]byte'), draws. (LAID: no walk: one application.) -/
theorem Tryz.strconv_Itoa (n : Int) (h0 : -9223372036854775808 ≤ n) (h1 : n ≤ 9223372036854775807) (w : World) (htab : Lib.TabIs Tryz.prog w "internal/strconv.uint64pow10" .u64 Lib.pow10Tab) :
 Calls Tryz.prog 39 #[.int .i64 n] w fun e w' => e = .returned (.string ⟨(Lib.itoa n).toArray⟩) ∧ ∃ k os, w' = grow (w.drewN k) os := Any.strconv_Itoa Tryz.laysM171 n h0 h1 w htab
open Go.RowKit Go.Sort Go.Lib in
def Tryz.laysM173_ren : Go.Shelf.Ren := ⟨fun | 173 => 40 | 246 => 68 | 283 => 101 | 284 => 102 | 285 => 103 | 286 => 104 | 129 => 135 | 317 => 134 | 318 => 136 | 319 => 137 | 320 => 138 | 337 => 152 | 338 => 153 | n => n, fun | 2 => 2 | 3 => 3 | 9 => 9 | 4 => 4 | 171 => 202 | 0 => 0 | 53 => 26 | 37 => 37 | 5 => 5 | 173 => 205 | 212 => 233 | 51 => 234 | 20 => 20 | 213 => 235 | 46 => 108 | 232 => 258 | 233 => 259 | n => n, fun | 17 => 2 | 18 => 6 | 19 => 7 | n => n⟩
theorem Tryz.laysM173 : Go.Proofs.LaysM.n173 Tryz.prog Tryz.laysM173_ren := {
 mixed := by kernel_rfl
 f129 := Tryz.func135.trans (congrArg some (by kernel_rfl))
 f173 := Tryz.func40.trans (congrArg some (by kernel_rfl))
 f246 := Tryz.func68.trans (congrArg some (by kernel_rfl))
 f283 := Tryz.func101.trans (congrArg some (by kernel_rfl))
 f284 := Tryz.func102.trans (congrArg some (by kernel_rfl))
 f285 := Tryz.func103.trans (congrArg some (by kernel_rfl))
 f286 := Tryz.func104.trans (congrArg some (by kernel_rfl))
 f317 := Tryz.func134.trans (congrArg some (by kernel_rfl))
 f318 := Tryz.func136.trans (congrArg some (by kernel_rfl))
 f319 := Tryz.func137.trans (congrArg some (by kernel_rfl))
 f320 := Tryz.func138.trans (congrArg some (by kernel_rfl))
 f337 := Tryz.func152.trans (congrArg some (by kernel_rfl))
 f338 := Tryz.func153.trans (congrArg some (by kernel_rfl))
 t0 := Tryz.underlying0
 a0 := Tryz.isAgg0
 z0 := Tryz.sizeOf0
 v0 := Tryz.zeroValue0
 t2 := Tryz.underlying2
 a2 := Tryz.isAgg2
 z2 := Tryz.sizeOf2
 v2 := Tryz.zeroValue2
 t3 := Tryz.underlying3
 a3 := Tryz.isAgg3
 z3 := Tryz.sizeOf3
 v3 := Tryz.zeroValue3
 t4 := Tryz.underlying4
 a4 := Tryz.isAgg4
 z4 := Tryz.sizeOf4
 v4 := Tryz.zeroValue4
 t5 := Tryz.underlying5
 a5 := Tryz.isAgg5
 z5 := Tryz.sizeOf5
 v5 := Tryz.zeroValue5
 t9 := Tryz.underlying9
 a9 := Tryz.isAgg9
 z9 := Tryz.sizeOf9
 v9 := Tryz.zeroValue9
 t20 := Tryz.underlying20
 a20 := Tryz.isAgg20
 z20 := Tryz.sizeOf20
 v20 := Tryz.zeroValue20
 t37 := Tryz.underlying37
 a37 := Tryz.isAgg37
 z37 := Tryz.sizeOf37
 v37 := Tryz.zeroValue37
 t46 := Tryz.underlying108
 a46 := Tryz.isAgg108
 z46 := Tryz.sizeOf108
 v46 := Tryz.zeroValue108
 t51 := Tryz.underlying234
 a51 := Tryz.isAgg234
 z51 := Tryz.sizeOf234
 v51 := Tryz.zeroValue234
 t53 := Tryz.underlying26
 a53 := Tryz.isAgg26
 z53 := Tryz.sizeOf26
 v53 := Tryz.zeroValue26
 t171 := Tryz.underlying202
 a171 := Tryz.isAgg202
 z171 := Tryz.sizeOf202
 v171 := Tryz.zeroValue202
 t173 := Tryz.underlying205
 a173 := Tryz.isAgg205
 z173 := Tryz.sizeOf205
 v173 := Tryz.zeroValue205
 t212 := Tryz.underlying233
 a212 := Tryz.isAgg233
 z212 := Tryz.sizeOf233
 v212 := Tryz.zeroValue233
 t213 := Tryz.underlying235
 a213 := Tryz.isAgg235
 z213 := Tryz.sizeOf235
 t232 := Tryz.underlying258
 a232 := Tryz.isAgg258
 z232 := Tryz.sizeOf258
 v232 := Tryz.zeroValue258
 t233 := Tryz.underlying259
 a233 := Tryz.isAgg259
 z233 := Tryz.sizeOf259
 v233 := Tryz.zeroValue259
 g17 := by kernel_rfl
 g18 := by kernel_rfl
 g19 := by kernel_rfl
 i0 := by kernel_rfl
 i2 := by kernel_rfl
 i3 := by kernel_rfl
 i4 := by kernel_rfl
 i5 := by kernel_rfl
 i9 := by kernel_rfl
 i20 := by kernel_rfl
 i37 := by kernel_rfl
 i46 := by kernel_rfl
 i51 := by kernel_rfl
 i53 := by kernel_rfl
 i171 := by kernel_rfl
 i173 := by kernel_rfl
 i212 := by kernel_rfl
 i232 := by kernel_rfl
 i233 := by kernel_rfl
 m17 := by kernel_rfl
 m18 := by kernel_rfl
 m19 := by kernel_rfl }
open Go.RowKit Go.Sort Go.Lib in
/-- strconv.FormatInt: "FormatInt returns the string representation of i in the given base": AT BASE 10: i's decimal numeral, for every int64. (LAID: no walk: one application.) -/
theorem Tryz.strconv_FormatInt_10 (n : Int) (h0 : -9223372036854775808 ≤ n) (h1 : n ≤ 9223372036854775807) (w : World) (htab : Lib.TabIs Tryz.prog w "internal/strconv.uint64pow10" .u64 Lib.pow10Tab) :
 Calls Tryz.prog 40 #[.int .i64 n, .int .i64 10] w fun e w' => e = .returned (.string ⟨(Lib.itoa n).toArray⟩) ∧ ∃ k os, w' = grow (w.drewN k) os := Any.strconv_FormatInt_10 Tryz.laysM173 n h0 h1 w htab
open Go.RowKit Go.Sort Go.Lib in
open Go.RowKit in
open Go.RowKit in
open Go.RowKit in
open Go.RowKit in
open Go.RowKit in
open Go.RowKit in
open Go.RowKit in
open Go.RowKit in
open Go.RowKit in
open Go.RowKit in
open Go.RowKit in
open Go.RowKit in
open Go.RowKit in
open Go.RowKit in
open Go.RowKit in
open Go.RowKit in
open Go.RowKit in
open Go.RowKit in
open Go.RowKit in
open Go.RowKit in
open Go.RowKit in
open Go.RowKit in
open Go.RowKit in
open Go.RowKit in
open Go.RowKit in
open Go.RowKit in
open Go.RowKit in
open Go.RowKit in
open Go.RowKit in
open Go.RowKit in
def Tryz.laysC174_ren : Go.Shelf.Ren := ⟨fun | 174 => 47 | 247 => 72 | 245 => 73 | 287 => 113 | 279 => 114 | 280 => 115 | 281 => 116 | 282 => 117 | 321 => 145 | 322 => 146 | 316 => 147 | 171 => 39 | 205 => 148 | 243 => 67 | 246 => 68 | 283 => 101 | 284 => 102 | 285 => 103 | 286 => 104 | 129 => 135 | 317 => 134 | 318 => 136 | 319 => 137 | 320 => 138 | 337 => 152 | 338 => 153 | n => n, fun | 9 => 9 | 3 => 3 | 2 => 2 | 75 => 65 | 85 => 114 | 4 => 4 | 167 => 210 | 5 => 5 | 53 => 26 | 175 => 211 | 46 => 108 | 168 => 213 | 37 => 37 | 0 => 0 | 210 => 247 | 21 => 21 | 127 => 104 | 145 => 257 | 143 => 255 | 171 => 202 | 173 => 205 | 212 => 233 | 51 => 234 | 20 => 20 | 213 => 235 | 232 => 258 | 233 => 259 | 80 => 69 | n => n, fun | 15 => 3 | 16 => 4 | 17 => 2 | 18 => 6 | 19 => 7 | n => n⟩
theorem Tryz.laysC174 : Go.Proofs.LaysC.n174 Tryz.prog Tryz.laysC174_ren := {
 mixed := by kernel_rfl
 f129 := Tryz.func135.trans (congrArg some (by kernel_rfl))
 f171 := Tryz.func39.trans (congrArg some (by kernel_rfl))
 f174 := Tryz.func47.trans (congrArg some (by kernel_rfl))
 f205 := Tryz.func148.trans (congrArg some (by kernel_rfl))
 f243 := Tryz.func67.trans (congrArg some (by kernel_rfl))
 f245 := Tryz.func73.trans (congrArg some (by kernel_rfl))
 f246 := Tryz.func68.trans (congrArg some (by kernel_rfl))
 f247 := Tryz.func72.trans (congrArg some (by kernel_rfl))
 f279 := Tryz.func114.trans (congrArg some (by kernel_rfl))
 f280 := Tryz.func115.trans (congrArg some (by kernel_rfl))
 f281 := Tryz.func116.trans (congrArg some (by kernel_rfl))
 f282 := Tryz.func117.trans (congrArg some (by kernel_rfl))
 f283 := Tryz.func101.trans (congrArg some (by kernel_rfl))
 f284 := Tryz.func102.trans (congrArg some (by kernel_rfl))
 f285 := Tryz.func103.trans (congrArg some (by kernel_rfl))
 f286 := Tryz.func104.trans (congrArg some (by kernel_rfl))
 f287 := Tryz.func113.trans (congrArg some (by kernel_rfl))
 f316 := Tryz.func147.trans (congrArg some (by kernel_rfl))
 f317 := Tryz.func134.trans (congrArg some (by kernel_rfl))
 f318 := Tryz.func136.trans (congrArg some (by kernel_rfl))
 f319 := Tryz.func137.trans (congrArg some (by kernel_rfl))
 f320 := Tryz.func138.trans (congrArg some (by kernel_rfl))
 f321 := Tryz.func145.trans (congrArg some (by kernel_rfl))
 f322 := Tryz.func146.trans (congrArg some (by kernel_rfl))
 f337 := Tryz.func152.trans (congrArg some (by kernel_rfl))
 f338 := Tryz.func153.trans (congrArg some (by kernel_rfl))
 t0 := Tryz.underlying0
 a0 := Tryz.isAgg0
 z0 := Tryz.sizeOf0
 v0 := Tryz.zeroValue0
 t2 := Tryz.underlying2
 a2 := Tryz.isAgg2
 z2 := Tryz.sizeOf2
 v2 := Tryz.zeroValue2
 t3 := Tryz.underlying3
 a3 := Tryz.isAgg3
 z3 := Tryz.sizeOf3
 v3 := Tryz.zeroValue3
 t4 := Tryz.underlying4
 a4 := Tryz.isAgg4
 z4 := Tryz.sizeOf4
 v4 := Tryz.zeroValue4
 t5 := Tryz.underlying5
 a5 := Tryz.isAgg5
 z5 := Tryz.sizeOf5
 v5 := Tryz.zeroValue5
 t9 := Tryz.underlying9
 a9 := Tryz.isAgg9
 z9 := Tryz.sizeOf9
 v9 := Tryz.zeroValue9
 t20 := Tryz.underlying20
 a20 := Tryz.isAgg20
 z20 := Tryz.sizeOf20
 v20 := Tryz.zeroValue20
 t21 := Tryz.underlying21
 a21 := Tryz.isAgg21
 z21 := Tryz.sizeOf21
 v21 := Tryz.zeroValue21
 t37 := Tryz.underlying37
 a37 := Tryz.isAgg37
 z37 := Tryz.sizeOf37
 v37 := Tryz.zeroValue37
 t46 := Tryz.underlying108
 a46 := Tryz.isAgg108
 z46 := Tryz.sizeOf108
 v46 := Tryz.zeroValue108
 t51 := Tryz.underlying234
 a51 := Tryz.isAgg234
 z51 := Tryz.sizeOf234
 v51 := Tryz.zeroValue234
 t53 := Tryz.underlying26
 a53 := Tryz.isAgg26
 z53 := Tryz.sizeOf26
 v53 := Tryz.zeroValue26
 t75 := Tryz.underlying65
 a75 := Tryz.isAgg65
 z75 := Tryz.sizeOf65
 v75 := Tryz.zeroValue65
 t85 := Tryz.underlying114
 a85 := Tryz.isAgg114
 z85 := Tryz.sizeOf114
 v85 := Tryz.zeroValue114
 t127 := Tryz.underlying104
 a127 := Tryz.isAgg104
 z127 := Tryz.sizeOf104
 v127 := Tryz.zeroValue104
 t143 := Tryz.underlying255
 a143 := Tryz.isAgg255
 z143 := Tryz.sizeOf255
 v143 := Tryz.zeroValue255
 t145 := Tryz.underlying257
 a145 := Tryz.isAgg257
 z145 := Tryz.sizeOf257
 v145 := Tryz.zeroValue257
 t167 := Tryz.underlying210
 a167 := Tryz.isAgg210
 z167 := Tryz.sizeOf210
 v167 := Tryz.zeroValue210
 t168 := Tryz.underlying213
 a168 := Tryz.isAgg213
 z168 := Tryz.sizeOf213
 v168 := Tryz.zeroValue213
 t171 := Tryz.underlying202
 a171 := Tryz.isAgg202
 z171 := Tryz.sizeOf202
 v171 := Tryz.zeroValue202
 t173 := Tryz.underlying205
 a173 := Tryz.isAgg205
 z173 := Tryz.sizeOf205
 v173 := Tryz.zeroValue205
 t175 := Tryz.underlying211
 a175 := Tryz.isAgg211
 z175 := Tryz.sizeOf211
 v175 := Tryz.zeroValue211
 t210 := Tryz.underlying247
 a210 := Tryz.isAgg247
 z210 := Tryz.sizeOf247
 v210 := Tryz.zeroValue247
 t212 := Tryz.underlying233
 a212 := Tryz.isAgg233
 z212 := Tryz.sizeOf233
 v212 := Tryz.zeroValue233
 t213 := Tryz.underlying235
 a213 := Tryz.isAgg235
 z213 := Tryz.sizeOf235
 t232 := Tryz.underlying258
 a232 := Tryz.isAgg258
 z232 := Tryz.sizeOf258
 v232 := Tryz.zeroValue258
 t233 := Tryz.underlying259
 a233 := Tryz.isAgg259
 z233 := Tryz.sizeOf259
 v233 := Tryz.zeroValue259
 g15 := by kernel_rfl
 g16 := by kernel_rfl
 g17 := by kernel_rfl
 g18 := by kernel_rfl
 g19 := by kernel_rfl
 t80 := Tryz.underlying69
 a80 := Tryz.isAgg69
 z80 := Tryz.sizeOf69
 v80 := Tryz.zeroValue69
 i0 := by kernel_rfl
 i2 := by kernel_rfl
 i3 := by kernel_rfl
 i4 := by kernel_rfl
 i5 := by kernel_rfl
 i9 := by kernel_rfl
 i20 := by kernel_rfl
 i21 := by kernel_rfl
 i37 := by kernel_rfl
 i46 := by kernel_rfl
 i51 := by kernel_rfl
 i53 := by kernel_rfl
 i75 := by kernel_rfl
 i80 := by kernel_rfl
 i85 := by kernel_rfl
 i127 := by kernel_rfl
 i143 := by kernel_rfl
 i145 := by kernel_rfl
 i167 := by kernel_rfl
 i168 := by kernel_rfl
 i171 := by kernel_rfl
 i173 := by kernel_rfl
 i175 := by kernel_rfl
 i210 := by kernel_rfl
 i212 := by kernel_rfl
 i232 := by kernel_rfl
 i233 := by kernel_rfl
 m15 := by kernel_rfl
 m16 := by kernel_rfl
 m17 := by kernel_rfl
 m18 := by kernel_rfl
 m19 := by kernel_rfl
 c0 := by kernel_rfl
 c2 := by kernel_rfl
 c3 := by kernel_rfl
 c4 := by kernel_rfl
 c5 := by kernel_rfl
 c9 := by kernel_rfl
 c20 := by kernel_rfl
 c21 := by kernel_rfl
 c37 := by kernel_rfl
 c46 := by kernel_rfl
 c51 := by kernel_rfl
 c53 := by kernel_rfl
 c75 := by kernel_rfl
 c80 := by kernel_rfl
 c85 := by kernel_rfl
 c127 := by kernel_rfl
 c143 := by kernel_rfl
 c145 := by kernel_rfl
 c167 := by kernel_rfl
 c168 := by kernel_rfl
 c171 := by kernel_rfl
 c173 := by kernel_rfl
 c175 := by kernel_rfl
 c210 := by kernel_rfl
 c212 := by kernel_rfl
 c213 := by kernel_rfl
 c232 := by kernel_rfl
 c233 := by kernel_rfl }
open Go.RowKit in
open Go.RowKit in
open Go.RowKit in
open Go.RowKit in
/-- strconv.ParseInt(s, 10, 64), AT EVERY STRING THAT SPELLS AN int64 ('Lib.parseIntB 64 s.data.toList = .ok v'): v, AND NO ERROR. (LAID: no walk: one application.) -/
theorem Tryz.strconv_ParseInt_10_at64_ok (s : ByteArray) (hmax : s.size ≤ 9223372036854775806) (v : Int) (h : Lib.parseIntB 64 s.data.toList = .ok v) (w : World) :
 Calls Tryz.prog 47 #[.string s, .int .i64 10, .int .i64 64] w fun e w' => e = .returned (.tuple #[.int .i64 v, .nilIface]) ∧ (w' = w ∨ ∃ t, w' = Lib.bytesWorld w 5 t) := Any.strconv_ParseInt_10_at64_ok Tryz.laysC174 s hmax v h w
open Go.RowKit in
/-- strconv.ParseInt(s, 10, 64), AT EVERY STRING THAT IS NO DECIMAL NUMERAL: 0, AND AN ERROR THAT IS NOT nil: a *NumError in a new block N: {Func: "ParseInt", Num: s's bytes, Err: what the variable ErrSyntax holds}. Of what was there nothing has turned. (LAID: no walk: one application.) -/
theorem Tryz.strconv_ParseInt_10_at64_syntax (s : ByteArray) (hlim : s.size ≤ 281474976710656) (h : Lib.parseIntB 64 s.data.toList = Lib.NumEnd.syntax) (ev : Value) (w : World) (hv : w.cell? ⟨3, 0, none⟩ = some ev) (hev : ev = .nilIface ∨ ∃ te pe, ev = .iface te pe) :
 Calls Tryz.prog 47 #[.string s, .int .i64 10, .int .i64 64] w fun e w' => ∃ N, e = .returned (.tuple #[.int .i64 (0), .iface 213 (.pointer (some ⟨N, 0, none⟩))]) ∧ w.heap.size ≤ N ∧ w'.heap[N]? = some (.cells #[.string ⟨#[80, 97, 114, 115, 101, 73, 110, 116]⟩, .string s, ev] 247 (0, 0)) ∧ Below w.heap.size w w' := Any.strconv_ParseInt_10_at64_syntax Tryz.laysC174 s hlim h ev w hv hev
open Go.RowKit in
open Go.RowKit in
open Go.RowKit in
open Go.RowKit in
open Go.RowKit in
open Go.RowKit in
open Go.RowKit in
open Go.RowKit in
open Go.RowKit in
open Go.RowKit in
open Go.RowKit in
open Go.RowKit in
open Go.RowKit in
open Go.RowKit in
open Go.RowKit in
open Go.RowKit in
open Go.RowKit in
open Go.RowKit in
open Go.RowKit in
open Go.RowKit in
open Go.RowKit Go.Lib in
def Tryz.lays145_ren : Go.Shelf.Ren := ⟨fun | 145 => 20 | 220 => 43 | 219 => 70 | 217 => 106 | 225 => 107 | 224 => 108 | 267 => 109 | 266 => 140 | 314 => 141 | n => n, fun | 9 => 9 | 4 => 4 | 59 => 73 | 3 => 3 | 5 => 5 | 46 => 108 | 146 => 238 | 51 => 234 | n => n, fun | 1 => 1 | n => n⟩
theorem Tryz.lays145 : Go.Proofs.Lays.n145 Tryz.prog Tryz.lays145_ren := {
 mixed := by kernel_rfl
 f145 := Tryz.func20.trans (congrArg some (by kernel_rfl))
 f217 := Tryz.func106.trans (congrArg some (by kernel_rfl))
 f219 := Tryz.func70.trans (congrArg some (by kernel_rfl))
 f220 := Tryz.func43.trans (congrArg some (by kernel_rfl))
 f224 := Tryz.func108.trans (congrArg some (by kernel_rfl))
 f225 := Tryz.func107.trans (congrArg some (by kernel_rfl))
 f266 := Tryz.func140.trans (congrArg some (by kernel_rfl))
 f267 := Tryz.func109.trans (congrArg some (by kernel_rfl))
 f314 := Tryz.func141.trans (congrArg some (by kernel_rfl))
 t3 := Tryz.underlying3
 a3 := Tryz.isAgg3
 z3 := Tryz.sizeOf3
 v3 := Tryz.zeroValue3
 t4 := Tryz.underlying4
 a4 := Tryz.isAgg4
 z4 := Tryz.sizeOf4
 v4 := Tryz.zeroValue4
 t5 := Tryz.underlying5
 a5 := Tryz.isAgg5
 z5 := Tryz.sizeOf5
 v5 := Tryz.zeroValue5
 t9 := Tryz.underlying9
 a9 := Tryz.isAgg9
 z9 := Tryz.sizeOf9
 v9 := Tryz.zeroValue9
 t46 := Tryz.underlying108
 a46 := Tryz.isAgg108
 z46 := Tryz.sizeOf108
 v46 := Tryz.zeroValue108
 t51 := Tryz.underlying234
 a51 := Tryz.isAgg234
 z51 := Tryz.sizeOf234
 v51 := Tryz.zeroValue234
 t59 := Tryz.underlying73
 a59 := Tryz.isAgg73
 z59 := Tryz.sizeOf73
 v59 := Tryz.zeroValue73
 t146 := Tryz.underlying238
 a146 := Tryz.isAgg238
 z146 := Tryz.sizeOf238
 v146 := Tryz.zeroValue238
 g1 := by kernel_rfl }
open Go.RowKit Go.Lib in
/-- strings.Cut: "Cut slices s around the first instance of sep, returning the text before and after sep. The found result reports whether sep appears in s. If sep does not appear in s, cut returns s, "", false.": IT RETURNS 'Lib.cut s sep'; the world is as it was but for the count of draws. (LAID: no walk: one application.) -/
theorem Tryz.strings_Cut (s sep : ByteArray) (m : Int) (w : World) (hs : s.size < 4294967281) (hm : w.cell? ⟨1, 0, none⟩ = some (.int .i64 m)) :
 Calls Tryz.prog 20 #[.string s, .string sep] w fun e w' => e = .returned (.tuple #[.string ⟨(Lib.cut s.data.toList sep.data.toList).1.toArray⟩, .string ⟨(Lib.cut s.data.toList sep.data.toList).2.1.toArray⟩, .bool (Lib.cut s.data.toList sep.data.toList).2.2]) ∧ ∃ n, w' = w.drewN n := Any.strings_Cut Tryz.lays145 s sep m w hs hm
open Go.RowKit Go.Lib in
def Tryz.lays146_ren : Go.Shelf.Ren := ⟨fun | 146 => 44 | 221 => 71 | 268 => 110 | 138 => 111 | 143 => 112 | 195 => 142 | 197 => 143 | 218 => 144 | 219 => 70 | 260 => 154 | 217 => 106 | 225 => 107 | 224 => 108 | 267 => 109 | 266 => 140 | 314 => 141 | n => n, fun | 9 => 9 | 31 => 100 | 3 => 3 | 4 => 4 | 0 => 0 | 105 => 241 | 21 => 21 | 5 => 5 | 46 => 108 | 119 => 260 | 139 => 263 | 138 => 262 | 146 => 238 | 51 => 234 | n => n, fun | 1 => 1 | 3 => 8 | 4 => 9 | n => n⟩
theorem Tryz.lays146 : Go.Proofs.Lays.n146 Tryz.prog Tryz.lays146_ren := {
 mixed := by kernel_rfl
 f138 := Tryz.func111.trans (congrArg some (by kernel_rfl))
 f143 := Tryz.func112.trans (congrArg some (by kernel_rfl))
 f146 := Tryz.func44.trans (congrArg some (by kernel_rfl))
 f195 := Tryz.func142.trans (congrArg some (by kernel_rfl))
 f197 := Tryz.func143.trans (congrArg some (by kernel_rfl))
 f217 := Tryz.func106.trans (congrArg some (by kernel_rfl))
 f218 := Tryz.func144.trans (congrArg some (by kernel_rfl))
 f219 := Tryz.func70.trans (congrArg some (by kernel_rfl))
 f221 := Tryz.func71.trans (congrArg some (by kernel_rfl))
 f224 := Tryz.func108.trans (congrArg some (by kernel_rfl))
 f225 := Tryz.func107.trans (congrArg some (by kernel_rfl))
 f260 := Tryz.func154.trans (congrArg some (by kernel_rfl))
 f266 := Tryz.func140.trans (congrArg some (by kernel_rfl))
 f267 := Tryz.func109.trans (congrArg some (by kernel_rfl))
 f268 := Tryz.func110.trans (congrArg some (by kernel_rfl))
 f314 := Tryz.func141.trans (congrArg some (by kernel_rfl))
 t0 := Tryz.underlying0
 a0 := Tryz.isAgg0
 z0 := Tryz.sizeOf0
 v0 := Tryz.zeroValue0
 t3 := Tryz.underlying3
 a3 := Tryz.isAgg3
 z3 := Tryz.sizeOf3
 v3 := Tryz.zeroValue3
 t4 := Tryz.underlying4
 a4 := Tryz.isAgg4
 z4 := Tryz.sizeOf4
 v4 := Tryz.zeroValue4
 t5 := Tryz.underlying5
 a5 := Tryz.isAgg5
 z5 := Tryz.sizeOf5
 v5 := Tryz.zeroValue5
 t9 := Tryz.underlying9
 a9 := Tryz.isAgg9
 z9 := Tryz.sizeOf9
 v9 := Tryz.zeroValue9
 t21 := Tryz.underlying21
 a21 := Tryz.isAgg21
 z21 := Tryz.sizeOf21
 v21 := Tryz.zeroValue21
 t31 := Tryz.underlying100
 a31 := Tryz.isAgg100
 z31 := Tryz.sizeOf100
 v31 := Tryz.zeroValue100
 t46 := Tryz.underlying108
 a46 := Tryz.isAgg108
 z46 := Tryz.sizeOf108
 v46 := Tryz.zeroValue108
 t51 := Tryz.underlying234
 a51 := Tryz.isAgg234
 z51 := Tryz.sizeOf234
 v51 := Tryz.zeroValue234
 t105 := Tryz.underlying241
 a105 := Tryz.isAgg241
 z105 := Tryz.sizeOf241
 v105 := Tryz.zeroValue241
 t119 := Tryz.underlying260
 a119 := Tryz.isAgg260
 z119 := Tryz.sizeOf260
 t138 := Tryz.underlying262
 a138 := Tryz.isAgg262
 z138 := Tryz.sizeOf262
 v138 := Tryz.zeroValue262
 t139 := Tryz.underlying263
 a139 := Tryz.isAgg263
 z139 := Tryz.sizeOf263
 v139 := Tryz.zeroValue263
 t146 := Tryz.underlying238
 a146 := Tryz.isAgg238
 z146 := Tryz.sizeOf238
 v146 := Tryz.zeroValue238
 g1 := by kernel_rfl
 g3 := by kernel_rfl
 g4 := by kernel_rfl }
open Go.RowKit Go.Lib in
/-- strings.Split. (LAID: no walk: one application.) -/
theorem Tryz.strings_Split (s sep : ByteArray) (m : Int) (w : World) (hs : s.size < 4294967281) (hm : w.cell? ⟨1, 0, none⟩ = some (.int .i64 m)) (h1 : 1 ≤ sep.size) :
 Calls Tryz.prog 44 #[.string s, .string sep] w fun e w' =>
  e = .returned (.slice (some ⟨w.heap.size, 0, none⟩) (Lib.countB s sep + 1) (Lib.countB s sep + 1)) ∧ w' = w.alloc (.cells ((Lib.splitB sep 0 (Lib.countB s sep) s).map Value.string).toArray 9) := Any.strings_Split Tryz.lays146 (by kernel_rfl) s sep m w hs hm h1
end Go.Proofs
end

section
namespace Go.Proofs.YtikkmkomlajnfaaGreatDoor.Wf
open Go.Lib

/-! numerals -/
theorem pm_snoc {M : Nat} (hM : M ≤ 18446744073709551615) : ∀ (l : List UInt8) (acc a : Nat) (c : UInt8), parseUintM M acc l = .ok a → 48 ≤ c.toNat → c.toNat ≤ 57 → a * 10 + (c.toNat - 48) ≤ M → parseUintM M acc (l ++ [c]) = .ok (a * 10 + (c.toNat - 48))
 | [], acc, a, c, h, h1, h2, h3 => by
   have e : acc = a := by injection h
   subst e
   show parseUintM M acc [c] = _
   unfold parseUintM
   rw [if_pos ⟨h1, h2⟩, if_neg (by omega), if_neg (by omega)]
   rfl
 | b :: r, acc, a, c, h, h1, h2, h3 => by
   rw [List.cons_append]
   unfold parseUintM at h ⊢
   by_cases k : 48 ≤ b.toNat ∧ b.toNat ≤ 57
   · rw [if_pos k] at h ⊢
     by_cases k2 : 1844674407370955162 ≤ acc
     · rw [if_pos k2] at h; cases h
     rw [if_neg k2] at h ⊢
     by_cases k3 : M < acc * 10 + (b.toNat - 48)
     · rw [if_pos k3] at h; cases h
     rw [if_neg k3] at h ⊢
     exact pm_snoc hM r _ a c h h1 h2 h3
   rw [if_neg k] at h; cases h
theorem dg_nat {u : Nat} (h : u < 10) : (UInt8.ofNat (48 + u)).toNat = 48 + u := by
 rw [UInt8.toNat_ofNat']
 omega
theorem pm_digits {M : Nat} (hM : M ≤ 18446744073709551615) (u : Nat) : u ≤ M → parseUintM M 0 (decDigits u) = .ok u := by
 induction u using Nat.strongRecOn with
 | _ u ih =>
   intro h
   by_cases k : u < 10
   · rw [decDigits, dif_pos k]
     unfold parseUintM
     rw [dg_nat k, if_pos (by omega), if_neg (by decide), if_neg (by omega)]
     show NumEnd.ok _ = _
     congr 1
     omega
   rw [decDigits, dif_neg k]
   have := pm_snoc hM (decDigits (u / 10)) 0 (u / 10) (UInt8.ofNat (48 + u % 10)) (ih (u / 10) (by omega) (by omega)) (by rw [dg_nat (Nat.mod_lt _ (by decide))]; omega) (by rw [dg_nat (Nat.mod_lt _ (by decide))]; omega) (by rw [dg_nat (Nat.mod_lt _ (by decide))]; omega)
   rw [this, dg_nat (Nat.mod_lt _ (by decide))]
   congr 1
   omega
theorem dg_all (u : Nat) : ∀ c ∈ decDigits u, 48 ≤ c.toNat ∧ c.toNat ≤ 57 := by
 induction u using Nat.strongRecOn with
 | _ u ih =>
   intro c hc
   by_cases k : u < 10
   · rw [decDigits, dif_pos k] at hc
     rw [List.mem_singleton] at hc
     subst hc
     rw [dg_nat k]; omega
   rw [decDigits, dif_neg k] at hc
   rcases List.mem_append.1 hc with hc | hc
   · exact ih (u / 10) (by omega) c hc
   rw [List.mem_singleton] at hc
   subst hc
   rw [dg_nat (Nat.mod_lt _ (by decide))]; omega
theorem dg_cons (u : Nat) : ∃ c r, decDigits u = c :: r := by
 cases h : decDigits u with
 | nil =>
   rw [decDigits] at h
   split at h
   · cases h
   exact absurd h (by simp)
 | cons c r => exact ⟨c, r, rfl⟩
theorem parse_itoa {n : Int} (h0 : -9223372036854775808 ≤ n) (h1 : n ≤ 9223372036854775807) : parseIntB 64 (itoa n) = .ok n := by
 unfold itoa
 by_cases k : n < 0
 · rw [if_pos k]
   unfold parseIntB
   dsimp only
   rw [if_pos (.inr (by decide))]
   obtain ⟨c, r, hc⟩ := dg_cons n.natAbs
   unfold parseUintB
   rw [if_neg (by rw [hc]; simp), pm_digits (by decide) n.natAbs (by have : (2 : Nat) ^ 64 - 1 = 18446744073709551615 := (by decide); omega)]
   have h63 : (2 : Nat) ^ (64 - 1) = 9223372036854775808 := by decide
   have h45 : (45 : UInt8).toNat = 45 := rfl
   rw [h63]
   simp only [h45, not_true_eq_false, false_and, if_false, true_and, if_true]
   rw [if_neg (by omega)]
   congr 1
   omega
 rw [if_neg k]
 obtain ⟨c, r, hc⟩ := dg_cons n.toNat
 have hd := dg_all n.toNat c (by rw [hc]; exact List.mem_cons_self)
 have hp := pm_digits (M := 2 ^ 64 - 1) (by decide) n.toNat (by have : (2 : Nat) ^ 64 - 1 = 18446744073709551615 := (by decide); omega)
 rw [hc] at hp ⊢
 unfold parseIntB
 dsimp only
 rw [if_neg (by omega)]
 unfold parseUintB
 rw [if_neg (by simp), hp]
 have h63 : (2 : Nat) ^ (64 - 1) = 9223372036854775808 := by decide
 rw [h63]
 dsimp only
 rw [if_neg (by omega), if_neg (by omega), if_neg (by omega)]
 congr 1
 omega

/-! words parted by a blank -/
theorem index_hit (c : UInt8) : ∀ (w r : List UInt8), c ∉ w → index (w ++ c :: r) [c] = w.length
 | [], r, _ => by
   show index (c :: r) [c] = 0
   unfold index
   rw [if_pos (by simp)]
 | b :: w, r, h => by
   have hb : b ≠ c := fun e => h (by rw [e]; exact List.mem_cons_self)
   have ih := index_hit c w r (fun e => h (List.mem_cons_of_mem _ e))
   rw [List.cons_append]
   unfold index
   rw [if_neg (by simpa using fun e => hb e.symm), ih, if_neg (by simp)]
   simp
theorem index_miss (c : UInt8) : ∀ (w : List UInt8), c ∉ w → index w [c] = -1
 | [], _ => rfl
 | b :: w, h => by
   have hb : b ≠ c := fun e => h (by rw [e]; exact List.mem_cons_self)
   have ih := index_miss c w (fun e => h (List.mem_cons_of_mem _ e))
   unfold index
   rw [if_neg (by simpa using fun e => hb e.symm), ih]
   rfl
theorem join_two (c : UInt8) (x y : List UInt8) (r : List (List UInt8)) : join (x :: y :: r) [c] = x ++ c :: join (y :: r) [c] := by
 rw [join_cons, join_cons]
 unfold joinTail
 simp
theorem split_join (c : UInt8) : ∀ (ws : List (List UInt8)) (x : List UInt8), c ∉ x → (∀ w ∈ ws, c ∉ w) → splitK [c] 0 ws.length (join (x :: ws) [c]) = x :: ws
 | [], x, _, _ => by rw [join_one]; rfl
 | y :: r, x, hx, h => by
   have ih := split_join c r y (h y List.mem_cons_self) (fun w hw => h w (List.mem_cons_of_mem _ hw))
   rw [join_two]
   show splitK [c] 0 (r.length + 1) _ = _
   unfold splitK
   rw [index_hit c x _ hx, if_neg (by simp)]
   rw [show ((x.length : Int).toNat + 0) = x.length by simp, List.take_left, show (x.length : Int).toNat + [c].length = x.length + 1 by simp, List.drop_append, List.drop_of_length_le (by omega), List.nil_append,
    show x.length + 1 - x.length = 1 by omega]
   show x :: splitK [c] 0 r.length (join (y :: r) [c]) = _
   rw [ih]
theorem count_join (c : UInt8) : ∀ (ws : List (List UInt8)) (x : List UInt8) (f : Nat), c ∉ x → (∀ w ∈ ws, c ∉ w) → ws.length < f → countFrom [c] f (join (x :: ws) [c]) = ws.length
 | [], x, f + 1, hx, _, _ => by
   rw [join_one]
   unfold countFrom
   rw [index_miss c x hx]
   rfl
 | y :: r, x, f + 1, hx, h, hf => by
   have ih := count_join c r y f (h y List.mem_cons_self) (fun w hw => h w (List.mem_cons_of_mem _ hw)) (by simp at hf; omega)
   rw [join_two]
   unfold countFrom
   rw [index_hit c x _ hx, if_neg (by simp)]
   rw [show (x.length : Int).toNat + [c].length = x.length + 1 by simp, List.drop_append, List.drop_of_length_le (by omega), List.nil_append, show x.length + 1 - x.length = 1 by omega]
   show 1 + countFrom [c] f (join (y :: r) [c]) = _
   rw [ih]
   simp
   omega
/-- the first line, and the others -/
theorem cut_line (c : UInt8) (x r : List UInt8) (h : c ∉ x) : cut (x ++ c :: r) [c] = (x, r, true) := by
 unfold cut
 rw [index_hit c x r h, if_pos (by omega)]
 rw [show (x.length : Int).toNat = x.length by simp, List.take_left, List.drop_append, List.drop_of_length_le (by simp), List.nil_append, show x.length + [c].length - x.length = 1 by simp]
 rfl
end Go.Proofs.YtikkmkomlajnfaaGreatDoor.Wf
end
