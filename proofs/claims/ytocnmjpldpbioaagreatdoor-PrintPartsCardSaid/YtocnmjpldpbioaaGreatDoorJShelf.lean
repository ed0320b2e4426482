/-
  DERIVED: THE SHELF's CONTRACTS AT THIS DUMP, IN PLAIN WORDS (tools/lay-plain.mjs out of 'TryzShelf.lean', which tools/lay-shelf.mjs wrote): THE SAME DECLARATIONS UNDER THE SAME NAMES: 'import', 'namespace', 'open', 'def', 'theorem' AND NOTHING ELSE: no command of the shelf's: FOR A HAND-IN. Each laying: the table of numbers ('.._ren') and one theorem, a field a fact of the dump's own or the kernel's comparison; each contract: ONE APPLICATION.
-/
import Derived.Shelf.Strings.Builder1
import Derived.Shelf.Strings.Builder2
import Derived.Shelf.Strings.OnBuilder
import Derived.Shelf.Strings.Trim
import Derived.Shelf.Small.Utf8
import Derived.Shelf.Small.Strs
import Derived.Shelf.Strings.BuilderF
import Derived.Shelf.Strings.BuilderK
import Derived.Shelf.Strings.Builder2Cap
import Derived.Shelf.Strconv.Atoi
import Derived.Shelf.Strconv.Itoa0
import Derived.Shelf.Strconv.Itoa1
import Derived.Shelf.LaysM
import Derived.Shelf.Strconv.Itoa2
import Derived.Shelf.Strconv.Itoa3
import Derived.Shelf.Strconv.Itoa4
import Derived.Shelf.Strconv.AtoiErrFast
import Derived.Shelf.Strconv.ParseIntEmpty
import Derived.Shelf.Strconv.AtoiFail
import Derived.Shelf.Strconv.Clone
import Derived.Shelf.Strconv.SyntaxError
import Derived.Shelf.LaysC
import Derived.Shelf.Strconv.ToError
import Derived.Shelf.Strconv.Lower
import Derived.Shelf.Strconv.ParseUint10
import Derived.Shelf.Strconv.ParseUint10Empty
import Derived.Shelf.Strconv.ParseUint10Any
import Derived.Shelf.Strconv.ParseInt10
import Derived.Shelf.Strconv.AtoiLong
import Derived.Shelf.Strconv.AtoiInnerAll
import Derived.Shelf.Strconv.RangeError
import Derived.Shelf.Strconv.ToErrorRange
import Derived.Shelf.Strconv.AtoiAll
import Derived.Shelf.Strconv.ErrVarAll
import Derived.Shelf.Strings.Search1
import Derived.Shelf.Strings.Fields
import Derived.Shelf.Strings.SplitShaped
import Derived.Shelf.Unicode.Latin
import Derived.Shelf.Unicode.Props
import Derived.Shelf.Unicode.Decode
import Derived.Shelf.Strings.Runes
import Derived.Shelf.Strings.AsciiSet
import Derived.Shelf.Unicode.DecodeSlow
import Derived.Shelf.Unicode.DecodeAny
import Derived.Shelf.Unicode.Is16White
import Derived.Shelf.Unicode.IsSpaceAny
import Derived.Shelf.Unicode.DecodeLast
import Derived.Shelf.Unicode.Is16Any
import Derived.Shelf.Unicode.Is32Any
import Derived.Shelf.Unicode.ExclAny
import Derived.Shelf.Unicode.PredsAny
import Derived.Shelf.Strings.BuilderCap
import Derived.Test.YtocnmjpldpbioaaGreatDoorProg
namespace Go.Proofs
open Go.Shelf
def Tryz.lays169_ren : Go.Shelf.Ren := ⟨fun | 169 => 28 | n => n, fun | 70 => 55 | 9 => 9 | 0 => 0 | 72 => 58 | 37 => 56 | 127 => 90 | 3 => 3 | 5 => 5 | n => n, fun | n => n⟩
theorem Tryz.lays169 : Go.Proofs.Lays.n169 Tryz.prog Tryz.lays169_ren := {
 mixed := by kernel_rfl
 f169 := Tryz.func28.trans (congrArg some (by kernel_rfl))
 t0 := Tryz.underlying0
 a0 := Tryz.isAgg0
 z0 := Tryz.sizeOf0
 v0 := Tryz.zeroValue0
 t3 := Tryz.underlying3
 a3 := Tryz.isAgg3
 z3 := Tryz.sizeOf3
 v3 := Tryz.zeroValue3
 t9 := Tryz.underlying9
 a9 := Tryz.isAgg9
 z9 := Tryz.sizeOf9
 v9 := Tryz.zeroValue9
 t37 := Tryz.underlying56
 a37 := Tryz.isAgg56
 z37 := Tryz.sizeOf56
 v37 := Tryz.zeroValue56
 t70 := Tryz.underlying55
 a70 := Tryz.isAgg55
 z70 := Tryz.sizeOf55
 v70 := Tryz.zeroValue55
 t72 := Tryz.underlying58
 a72 := Tryz.isAgg58
 z72 := Tryz.sizeOf58
 v72 := Tryz.zeroValue58
 t127 := Tryz.underlying90
 a127 := Tryz.isAgg90
 z127 := Tryz.sizeOf90
 v127 := Tryz.zeroValue90 }
theorem Tryz.Builder_Extra_169 : Builder.Extra Tryz.prog Tryz.lays169_ren := {
 sizeBuilder := by kernel_rfl
 liesBuilder := by kernel_rfl
 t5 := Tryz.underlying5
 a5 := Tryz.isAgg5
 z5 := Tryz.sizeOf5
 v5 := Tryz.zeroValue5
 infoByte := by kernel_rfl
 cellsByte := by kernel_rfl
 sizeByte := by kernel_rfl
 neB5 := by decide }
def Tryz.lays156_ren : Go.Shelf.Ren := ⟨fun | 156 => 19 | 165 => 34 | 166 => 35 | 169 => 28 | 240 => 53 | 241 => 54 | 276 => 86 | 277 => 87 | n => n, fun | 31 => 32 | 9 => 9 | 3 => 3 | 4 => 4 | 0 => 0 | 20 => 20 | 72 => 58 | 76 => 71 | 70 => 55 | 37 => 56 | 75 => 70 | 127 => 90 | 164 => 132 | 5 => 5 | 80 => 60 | n => n, fun | n => n⟩
theorem Tryz.lays156 : Go.Proofs.Lays.n156 Tryz.prog Tryz.lays156_ren := {
 mixed := by kernel_rfl
 f156 := Tryz.func19.trans (congrArg some (by kernel_rfl))
 f165 := Tryz.func34.trans (congrArg some (by kernel_rfl))
 f166 := Tryz.func35.trans (congrArg some (by kernel_rfl))
 f169 := Tryz.func28.trans (congrArg some (by kernel_rfl))
 f240 := Tryz.func53.trans (congrArg some (by kernel_rfl))
 f241 := Tryz.func54.trans (congrArg some (by kernel_rfl))
 f276 := Tryz.func86.trans (congrArg some (by kernel_rfl))
 f277 := Tryz.func87.trans (congrArg some (by kernel_rfl))
 t0 := Tryz.underlying0
 a0 := Tryz.isAgg0
 z0 := Tryz.sizeOf0
 v0 := Tryz.zeroValue0
 t3 := Tryz.underlying3
 a3 := Tryz.isAgg3
 z3 := Tryz.sizeOf3
 v3 := Tryz.zeroValue3
 t4 := Tryz.underlying4
 a4 := Tryz.isAgg4
 z4 := Tryz.sizeOf4
 v4 := Tryz.zeroValue4
 t9 := Tryz.underlying9
 a9 := Tryz.isAgg9
 z9 := Tryz.sizeOf9
 v9 := Tryz.zeroValue9
 t20 := Tryz.underlying20
 a20 := Tryz.isAgg20
 z20 := Tryz.sizeOf20
 v20 := Tryz.zeroValue20
 t31 := Tryz.underlying32
 a31 := Tryz.isAgg32
 z31 := Tryz.sizeOf32
 v31 := Tryz.zeroValue32
 t37 := Tryz.underlying56
 a37 := Tryz.isAgg56
 z37 := Tryz.sizeOf56
 v37 := Tryz.zeroValue56
 t70 := Tryz.underlying55
 a70 := Tryz.isAgg55
 z70 := Tryz.sizeOf55
 v70 := Tryz.zeroValue55
 t72 := Tryz.underlying58
 a72 := Tryz.isAgg58
 z72 := Tryz.sizeOf58
 v72 := Tryz.zeroValue58
 t75 := Tryz.underlying70
 a75 := Tryz.isAgg70
 z75 := Tryz.sizeOf70
 v75 := Tryz.zeroValue70
 t76 := Tryz.underlying71
 a76 := Tryz.isAgg71
 z76 := Tryz.sizeOf71
 v76 := Tryz.zeroValue71
 t127 := Tryz.underlying90
 a127 := Tryz.isAgg90
 z127 := Tryz.sizeOf90
 v127 := Tryz.zeroValue90
 t164 := Tryz.underlying132
 a164 := Tryz.isAgg132
 z164 := Tryz.sizeOf132
 v164 := Tryz.zeroValue132 }
theorem Tryz.Builder_Extra_156 : Builder.Extra Tryz.prog Tryz.lays156_ren := {
 sizeBuilder := by kernel_rfl
 liesBuilder := by kernel_rfl
 t5 := Tryz.underlying5
 a5 := Tryz.isAgg5
 z5 := Tryz.sizeOf5
 v5 := Tryz.zeroValue5
 infoByte := by kernel_rfl
 cellsByte := by kernel_rfl
 sizeByte := by kernel_rfl
 neB5 := by decide }
open Go.RowKit in
/-- No element: the empty string; the world is as it was. (Whatever the slice's address and capacity: a nil slice too.) (LAID: no walk: one application.) -/
theorem Tryz.strings_Join_none (a : Option Addr) (c : Nat) (sep : ByteArray) (w : World) :
  Calls Tryz.prog 19 #[.slice a 0 c, .string sep] w fun e w' => e = .returned (.string ⟨#[]⟩) ∧ w' = w := Any.strings_Join_none Tryz.lays156 Tryz.Builder_Extra_156 a c sep w
open Go.RowKit in
/-- strings.Join: "Join concatenates the elements of its first argument to create a single string. The separator string sep is placed between elements in the resulting string.": HOWEVER MANY ELEMENTS. Below the heap's end the world is as it was. (LAID: no walk: one application.) -/
theorem Tryz.strings_Join (bk o c : Nat) (xs : List ByteArray) (sep : ByteArray) (w : World) (hcells : ∀ (j : Nat) x, xs[j]? = some x → w.cell? ⟨bk, o + j, none⟩ = some (.string x)) (hbk : bk < w.heap.size) (hN : xs.length ≤ 140737488355328) (hcap : xs.length ≤ c) (hlen : (Lib.join (xs.map (·.data.toList)) sep.data.toList).length ≤ 140737488355328) :
  Calls Tryz.prog 19 #[.slice (some ⟨bk, o, none⟩) xs.length c, .string sep] w fun e w' => e = .returned (.string ⟨(Lib.join (xs.map (·.data.toList)) sep.data.toList).toArray⟩) ∧ Below w.heap.size w w' := Any.strings_Join Tryz.lays156 Tryz.Builder_Extra_156 bk o c xs sep w hcells hbk hN hcap hlen
def Tryz.lays162_ren : Go.Shelf.Ren := ⟨fun | 162 => 23 | 232 => 39 | 227 => 40 | 234 => 41 | 236 => 42 | 228 => 58 | 271 => 59 | 151 => 60 | 120 => 95 | 197 => 96 | 152 => 97 | 260 => 111 | 137 => 112 | 119 => 113 | 224 => 114 | 225 => 115 | 217 => 123 | 266 => 126 | n => n, fun | 9 => 9 | 4 => 4 | 3 => 3 | 5 => 5 | 117 => 80 | 116 => 79 | 0 => 0 | 124 => 83 | 21 => 21 | 105 => 108 | 46 => 145 | 119 => 113 | 139 => 168 | 138 => 167 | n => n, fun | 3 => 7 | 4 => 8 | n => n⟩
theorem Tryz.lays162 : Go.Proofs.Lays.n162 Tryz.prog Tryz.lays162_ren := {
 mixed := by kernel_rfl
 f119 := Tryz.func113.trans (congrArg some (by kernel_rfl))
 f120 := Tryz.func95.trans (congrArg some (by kernel_rfl))
 f137 := Tryz.func112.trans (congrArg some (by kernel_rfl))
 f151 := Tryz.func60.trans (congrArg some (by kernel_rfl))
 f152 := Tryz.func97.trans (congrArg some (by kernel_rfl))
 f162 := Tryz.func23.trans (congrArg some (by kernel_rfl))
 f197 := Tryz.func96.trans (congrArg some (by kernel_rfl))
 f217 := Tryz.func123.trans (congrArg some (by kernel_rfl))
 f224 := Tryz.func114.trans (congrArg some (by kernel_rfl))
 f225 := Tryz.func115.trans (congrArg some (by kernel_rfl))
 f227 := Tryz.func40.trans (congrArg some (by kernel_rfl))
 f228 := Tryz.func58.trans (congrArg some (by kernel_rfl))
 f232 := Tryz.func39.trans (congrArg some (by kernel_rfl))
 f234 := Tryz.func41.trans (congrArg some (by kernel_rfl))
 f236 := Tryz.func42.trans (congrArg some (by kernel_rfl))
 f260 := Tryz.func111.trans (congrArg some (by kernel_rfl))
 f266 := Tryz.func126.trans (congrArg some (by kernel_rfl))
 f271 := Tryz.func59.trans (congrArg some (by kernel_rfl))
 t0 := Tryz.underlying0
 a0 := Tryz.isAgg0
 z0 := Tryz.sizeOf0
 v0 := Tryz.zeroValue0
 t3 := Tryz.underlying3
 a3 := Tryz.isAgg3
 z3 := Tryz.sizeOf3
 v3 := Tryz.zeroValue3
 t4 := Tryz.underlying4
 a4 := Tryz.isAgg4
 z4 := Tryz.sizeOf4
 v4 := Tryz.zeroValue4
 t5 := Tryz.underlying5
 a5 := Tryz.isAgg5
 z5 := Tryz.sizeOf5
 v5 := Tryz.zeroValue5
 t9 := Tryz.underlying9
 a9 := Tryz.isAgg9
 z9 := Tryz.sizeOf9
 v9 := Tryz.zeroValue9
 t21 := Tryz.underlying21
 a21 := Tryz.isAgg21
 z21 := Tryz.sizeOf21
 v21 := Tryz.zeroValue21
 t46 := Tryz.underlying145
 a46 := Tryz.isAgg145
 z46 := Tryz.sizeOf145
 v46 := Tryz.zeroValue145
 t105 := Tryz.underlying108
 a105 := Tryz.isAgg108
 z105 := Tryz.sizeOf108
 v105 := Tryz.zeroValue108
 t116 := Tryz.underlying79
 a116 := Tryz.isAgg79
 z116 := Tryz.sizeOf79
 t117 := Tryz.underlying80
 a117 := Tryz.isAgg80
 z117 := Tryz.sizeOf80
 v117 := Tryz.zeroValue80
 t119 := Tryz.underlying113
 a119 := Tryz.isAgg113
 z119 := Tryz.sizeOf113
 t124 := Tryz.underlying83
 a124 := Tryz.isAgg83
 z124 := Tryz.sizeOf83
 v124 := Tryz.zeroValue83
 t138 := Tryz.underlying167
 a138 := Tryz.isAgg167
 z138 := Tryz.sizeOf167
 v138 := Tryz.zeroValue167
 t139 := Tryz.underlying168
 a139 := Tryz.isAgg168
 z139 := Tryz.sizeOf168
 v139 := Tryz.zeroValue168
 g3 := by kernel_rfl
 g4 := by kernel_rfl }
open Go.RowKit in
/-- strings.TrimRight: "TrimRight returns a slice of the string s, with all trailing Unicode code points contained in cutset removed.": AT A cutset OF ONE ASCII BYTE. The world is as it was. (LAID: no walk: one application.) -/
theorem Tryz.strings_TrimRight_one (s : ByteArray) (c : UInt8) (hc : c.toNat < 128) (w : World) (hs : s.size ≤ 9223372036854775807) :
  Calls Tryz.prog 23 #[.string s, .string ⟨#[c]⟩] w fun e w' => e = .returned (.string ⟨(Lib.trimRightB s.data.toList c).toArray⟩) ∧ w' = w := Any.strings_TrimRight_one Tryz.lays162 s c hc w hs
open Go.RowKit in
/-- (*strings.Builder).String: "String returns the accumulated string.": WHATEVER THE BUILDER HOLDS; THE FORM '_k': OVER 'Lib.IsBuilderF' (a builder that 'String()' may have read), AND WITH THE FRAME THAT REACHES ABOVE THE BUILDER: 'Lib.OthersKept': every block that is not b and is no row of uint8's stands as it stood: the iterator of a range among them. (LAID: no walk: one application.) -/
theorem Tryz.Builder_String_any_k (B b : Nat) (l : List UInt8) (w : World) (h : Lib.IsBuilderF 58 5 B b (Lib.byteCells l) w) (hBw : B ≤ w.heap.size) :
  Calls Tryz.prog 28 #[.pointer (some ⟨b, 0, none⟩)] w fun e w' => e = .returned (.string ⟨l.toArray⟩) ∧ (Lib.IsBuilderF 58 5 B b (Lib.byteCells l) w' ∧ Below B w w' ∧ Lib.OthersKept 5 (some b) w w') := Any.Builder_String_any_k Tryz.lays169 Tryz.Builder_Extra_169 B b l w h hBw
def Tryz.lays171_ren : Go.Shelf.Ren := ⟨fun | 171 => 30 | 243 => 50 | 246 => 49 | 283 => 64 | 284 => 65 | 285 => 66 | 286 => 67 | 129 => 100 | 317 => 99 | 318 => 101 | 319 => 102 | 320 => 103 | 337 => 118 | 338 => 119 | n => n, fun | 3 => 3 | 9 => 9 | 2 => 2 | 4 => 4 | 171 => 116 | 0 => 0 | 53 => 41 | 37 => 56 | 5 => 5 | 173 => 119 | 212 => 143 | 51 => 139 | 20 => 20 | 213 => 144 | 46 => 145 | 232 => 171 | 233 => 172 | n => n, fun | 17 => 5 | 18 => 9 | 19 => 10 | n => n⟩
theorem Tryz.lays171 : Go.Proofs.Lays.n171 Tryz.prog Tryz.lays171_ren := {
 mixed := by kernel_rfl
 f129 := Tryz.func100.trans (congrArg some (by kernel_rfl))
 f171 := Tryz.func30.trans (congrArg some (by kernel_rfl))
 f243 := Tryz.func50.trans (congrArg some (by kernel_rfl))
 f246 := Tryz.func49.trans (congrArg some (by kernel_rfl))
 f283 := Tryz.func64.trans (congrArg some (by kernel_rfl))
 f284 := Tryz.func65.trans (congrArg some (by kernel_rfl))
 f285 := Tryz.func66.trans (congrArg some (by kernel_rfl))
 f286 := Tryz.func67.trans (congrArg some (by kernel_rfl))
 f317 := Tryz.func99.trans (congrArg some (by kernel_rfl))
 f318 := Tryz.func101.trans (congrArg some (by kernel_rfl))
 f319 := Tryz.func102.trans (congrArg some (by kernel_rfl))
 f320 := Tryz.func103.trans (congrArg some (by kernel_rfl))
 f337 := Tryz.func118.trans (congrArg some (by kernel_rfl))
 f338 := Tryz.func119.trans (congrArg some (by kernel_rfl))
 t0 := Tryz.underlying0
 a0 := Tryz.isAgg0
 z0 := Tryz.sizeOf0
 v0 := Tryz.zeroValue0
 t2 := Tryz.underlying2
 a2 := Tryz.isAgg2
 z2 := Tryz.sizeOf2
 v2 := Tryz.zeroValue2
 t3 := Tryz.underlying3
 a3 := Tryz.isAgg3
 z3 := Tryz.sizeOf3
 v3 := Tryz.zeroValue3
 t4 := Tryz.underlying4
 a4 := Tryz.isAgg4
 z4 := Tryz.sizeOf4
 v4 := Tryz.zeroValue4
 t5 := Tryz.underlying5
 a5 := Tryz.isAgg5
 z5 := Tryz.sizeOf5
 v5 := Tryz.zeroValue5
 t9 := Tryz.underlying9
 a9 := Tryz.isAgg9
 z9 := Tryz.sizeOf9
 v9 := Tryz.zeroValue9
 t20 := Tryz.underlying20
 a20 := Tryz.isAgg20
 z20 := Tryz.sizeOf20
 v20 := Tryz.zeroValue20
 t37 := Tryz.underlying56
 a37 := Tryz.isAgg56
 z37 := Tryz.sizeOf56
 v37 := Tryz.zeroValue56
 t46 := Tryz.underlying145
 a46 := Tryz.isAgg145
 z46 := Tryz.sizeOf145
 v46 := Tryz.zeroValue145
 t51 := Tryz.underlying139
 a51 := Tryz.isAgg139
 z51 := Tryz.sizeOf139
 v51 := Tryz.zeroValue139
 t53 := Tryz.underlying41
 a53 := Tryz.isAgg41
 z53 := Tryz.sizeOf41
 v53 := Tryz.zeroValue41
 t171 := Tryz.underlying116
 a171 := Tryz.isAgg116
 z171 := Tryz.sizeOf116
 v171 := Tryz.zeroValue116
 t173 := Tryz.underlying119
 a173 := Tryz.isAgg119
 z173 := Tryz.sizeOf119
 v173 := Tryz.zeroValue119
 t212 := Tryz.underlying143
 a212 := Tryz.isAgg143
 z212 := Tryz.sizeOf143
 v212 := Tryz.zeroValue143
 t213 := Tryz.underlying144
 a213 := Tryz.isAgg144
 z213 := Tryz.sizeOf144
 t232 := Tryz.underlying171
 a232 := Tryz.isAgg171
 z232 := Tryz.sizeOf171
 v232 := Tryz.zeroValue171
 t233 := Tryz.underlying172
 a233 := Tryz.isAgg172
 z233 := Tryz.sizeOf172
 v233 := Tryz.zeroValue172
 g17 := by kernel_rfl
 g18 := by kernel_rfl
 g19 := by kernel_rfl }
open Go.RowKit Go.Sort Go.Lib in
/-- THE ROAD WITHOUT THE TABLE: 0 <= i < 100: NO PREMISE ON THE WORLD, AND THE WORLD IS AS IT WAS: a row that keeps its argument in that range need list no table ('laid = []'). (LAID: no walk: one application.) -/
theorem Tryz.strconv_Itoa_small (i : Nat) (hi : i < 100) (w : World) :
  Calls Tryz.prog 30 #[.int .i64 i] w fun e w' => e = .returned (.string ⟨(Lib.decDigits i).toArray⟩) ∧ w' = w := Any.strconv_Itoa_small Tryz.lays171 i hi w
def Tryz.laysM173_ren : Go.Shelf.Ren := ⟨fun | 173 => 29 | 246 => 49 | 283 => 64 | 284 => 65 | 285 => 66 | 286 => 67 | 129 => 100 | 317 => 99 | 318 => 101 | 319 => 102 | 320 => 103 | 337 => 118 | 338 => 119 | n => n, fun | 2 => 2 | 3 => 3 | 9 => 9 | 4 => 4 | 171 => 116 | 0 => 0 | 53 => 41 | 37 => 56 | 5 => 5 | 173 => 119 | 212 => 143 | 51 => 139 | 20 => 20 | 213 => 144 | 46 => 145 | 232 => 171 | 233 => 172 | n => n, fun | 17 => 5 | 18 => 9 | 19 => 10 | n => n⟩
theorem Tryz.laysM173 : Go.Proofs.LaysM.n173 Tryz.prog Tryz.laysM173_ren := {
 mixed := by kernel_rfl
 f129 := Tryz.func100.trans (congrArg some (by kernel_rfl))
 f173 := Tryz.func29.trans (congrArg some (by kernel_rfl))
 f246 := Tryz.func49.trans (congrArg some (by kernel_rfl))
 f283 := Tryz.func64.trans (congrArg some (by kernel_rfl))
 f284 := Tryz.func65.trans (congrArg some (by kernel_rfl))
 f285 := Tryz.func66.trans (congrArg some (by kernel_rfl))
 f286 := Tryz.func67.trans (congrArg some (by kernel_rfl))
 f317 := Tryz.func99.trans (congrArg some (by kernel_rfl))
 f318 := Tryz.func101.trans (congrArg some (by kernel_rfl))
 f319 := Tryz.func102.trans (congrArg some (by kernel_rfl))
 f320 := Tryz.func103.trans (congrArg some (by kernel_rfl))
 f337 := Tryz.func118.trans (congrArg some (by kernel_rfl))
 f338 := Tryz.func119.trans (congrArg some (by kernel_rfl))
 t0 := Tryz.underlying0
 a0 := Tryz.isAgg0
 z0 := Tryz.sizeOf0
 v0 := Tryz.zeroValue0
 t2 := Tryz.underlying2
 a2 := Tryz.isAgg2
 z2 := Tryz.sizeOf2
 v2 := Tryz.zeroValue2
 t3 := Tryz.underlying3
 a3 := Tryz.isAgg3
 z3 := Tryz.sizeOf3
 v3 := Tryz.zeroValue3
 t4 := Tryz.underlying4
 a4 := Tryz.isAgg4
 z4 := Tryz.sizeOf4
 v4 := Tryz.zeroValue4
 t5 := Tryz.underlying5
 a5 := Tryz.isAgg5
 z5 := Tryz.sizeOf5
 v5 := Tryz.zeroValue5
 t9 := Tryz.underlying9
 a9 := Tryz.isAgg9
 z9 := Tryz.sizeOf9
 v9 := Tryz.zeroValue9
 t20 := Tryz.underlying20
 a20 := Tryz.isAgg20
 z20 := Tryz.sizeOf20
 v20 := Tryz.zeroValue20
 t37 := Tryz.underlying56
 a37 := Tryz.isAgg56
 z37 := Tryz.sizeOf56
 v37 := Tryz.zeroValue56
 t46 := Tryz.underlying145
 a46 := Tryz.isAgg145
 z46 := Tryz.sizeOf145
 v46 := Tryz.zeroValue145
 t51 := Tryz.underlying139
 a51 := Tryz.isAgg139
 z51 := Tryz.sizeOf139
 v51 := Tryz.zeroValue139
 t53 := Tryz.underlying41
 a53 := Tryz.isAgg41
 z53 := Tryz.sizeOf41
 v53 := Tryz.zeroValue41
 t171 := Tryz.underlying116
 a171 := Tryz.isAgg116
 z171 := Tryz.sizeOf116
 v171 := Tryz.zeroValue116
 t173 := Tryz.underlying119
 a173 := Tryz.isAgg119
 z173 := Tryz.sizeOf119
 v173 := Tryz.zeroValue119
 t212 := Tryz.underlying143
 a212 := Tryz.isAgg143
 z212 := Tryz.sizeOf143
 v212 := Tryz.zeroValue143
 t213 := Tryz.underlying144
 a213 := Tryz.isAgg144
 z213 := Tryz.sizeOf144
 t232 := Tryz.underlying171
 a232 := Tryz.isAgg171
 z232 := Tryz.sizeOf171
 v232 := Tryz.zeroValue171
 t233 := Tryz.underlying172
 a233 := Tryz.isAgg172
 z233 := Tryz.sizeOf172
 v233 := Tryz.zeroValue172
 g17 := by kernel_rfl
 g18 := by kernel_rfl
 g19 := by kernel_rfl
 i0 := by kernel_rfl
 i2 := by kernel_rfl
 i3 := by kernel_rfl
 i4 := by kernel_rfl
 i5 := by kernel_rfl
 i9 := by kernel_rfl
 i20 := by kernel_rfl
 i37 := by kernel_rfl
 i46 := by kernel_rfl
 i51 := by kernel_rfl
 i53 := by kernel_rfl
 i171 := by kernel_rfl
 i173 := by kernel_rfl
 i212 := by kernel_rfl
 i232 := by kernel_rfl
 i233 := by kernel_rfl
 m17 := by kernel_rfl
 m18 := by kernel_rfl
 m19 := by kernel_rfl }
open Go.RowKit Go.Sort Go.Lib in
/-- strconv.FormatInt: "FormatInt returns the string representation of i in the given base": AT BASE 10: i's decimal numeral, for every int64. (LAID: no walk: one application.) -/
theorem Tryz.strconv_FormatInt_10 (n : Int) (h0 : -9223372036854775808 ≤ n) (h1 : n ≤ 9223372036854775807) (w : World) (htab : Lib.TabIs Tryz.prog w "internal/strconv.uint64pow10" .u64 Lib.pow10Tab) :
  Calls Tryz.prog 29 #[.int .i64 n, .int .i64 10] w fun e w' => e = .returned (.string ⟨(Lib.itoa n).toArray⟩) ∧ ∃ k os, w' = grow (w.drewN k) os := Any.strconv_FormatInt_10 Tryz.laysM173 n h0 h1 w htab
def Tryz.laysC172_ren : Go.Shelf.Ren := ⟨fun | 172 => 125 | 244 => 128 | 245 => 129 | 247 => 130 | 279 => 131 | 280 => 132 | 281 => 133 | 282 => 134 | 287 => 135 | 316 => 136 | 171 => 30 | 205 => 137 | 321 => 138 | 322 => 139 | 243 => 50 | 246 => 49 | 283 => 64 | 284 => 65 | 285 => 66 | 286 => 67 | 129 => 100 | 317 => 99 | 318 => 101 | 319 => 102 | 320 => 103 | 337 => 118 | 338 => 119 | n => n, fun | 9 => 9 | 3 => 3 | 75 => 70 | 76 => 71 | 4 => 4 | 5 => 5 | 167 => 174 | 37 => 56 | 0 => 0 | 85 => 175 | 2 => 2 | 168 => 177 | 53 => 41 | 175 => 180 | 46 => 145 | 210 => 184 | 127 => 90 | 145 => 189 | 143 => 187 | 21 => 21 | 171 => 116 | 173 => 119 | 212 => 143 | 51 => 139 | 20 => 20 | 213 => 144 | 232 => 171 | 233 => 172 | 80 => 60 | n => n, fun | 15 => 14 | 16 => 15 | 17 => 5 | 18 => 9 | 19 => 10 | n => n⟩
theorem Tryz.laysC172 : Go.Proofs.LaysC.n172 Tryz.prog Tryz.laysC172_ren := {
 mixed := by kernel_rfl
 f129 := Tryz.func100.trans (congrArg some (by kernel_rfl))
 f171 := Tryz.func30.trans (congrArg some (by kernel_rfl))
 f172 := Tryz.func125.trans (congrArg some (by kernel_rfl))
 f205 := Tryz.func137.trans (congrArg some (by kernel_rfl))
 f243 := Tryz.func50.trans (congrArg some (by kernel_rfl))
 f244 := Tryz.func128.trans (congrArg some (by kernel_rfl))
 f245 := Tryz.func129.trans (congrArg some (by kernel_rfl))
 f246 := Tryz.func49.trans (congrArg some (by kernel_rfl))
 f247 := Tryz.func130.trans (congrArg some (by kernel_rfl))
 f279 := Tryz.func131.trans (congrArg some (by kernel_rfl))
 f280 := Tryz.func132.trans (congrArg some (by kernel_rfl))
 f281 := Tryz.func133.trans (congrArg some (by kernel_rfl))
 f282 := Tryz.func134.trans (congrArg some (by kernel_rfl))
 f283 := Tryz.func64.trans (congrArg some (by kernel_rfl))
 f284 := Tryz.func65.trans (congrArg some (by kernel_rfl))
 f285 := Tryz.func66.trans (congrArg some (by kernel_rfl))
 f286 := Tryz.func67.trans (congrArg some (by kernel_rfl))
 f287 := Tryz.func135.trans (congrArg some (by kernel_rfl))
 f316 := Tryz.func136.trans (congrArg some (by kernel_rfl))
 f317 := Tryz.func99.trans (congrArg some (by kernel_rfl))
 f318 := Tryz.func101.trans (congrArg some (by kernel_rfl))
 f319 := Tryz.func102.trans (congrArg some (by kernel_rfl))
 f320 := Tryz.func103.trans (congrArg some (by kernel_rfl))
 f321 := Tryz.func138.trans (congrArg some (by kernel_rfl))
 f322 := Tryz.func139.trans (congrArg some (by kernel_rfl))
 f337 := Tryz.func118.trans (congrArg some (by kernel_rfl))
 f338 := Tryz.func119.trans (congrArg some (by kernel_rfl))
 t0 := Tryz.underlying0
 a0 := Tryz.isAgg0
 z0 := Tryz.sizeOf0
 v0 := Tryz.zeroValue0
 t2 := Tryz.underlying2
 a2 := Tryz.isAgg2
 z2 := Tryz.sizeOf2
 v2 := Tryz.zeroValue2
 t3 := Tryz.underlying3
 a3 := Tryz.isAgg3
 z3 := Tryz.sizeOf3
 v3 := Tryz.zeroValue3
 t4 := Tryz.underlying4
 a4 := Tryz.isAgg4
 z4 := Tryz.sizeOf4
 v4 := Tryz.zeroValue4
 t5 := Tryz.underlying5
 a5 := Tryz.isAgg5
 z5 := Tryz.sizeOf5
 v5 := Tryz.zeroValue5
 t9 := Tryz.underlying9
 a9 := Tryz.isAgg9
 z9 := Tryz.sizeOf9
 v9 := Tryz.zeroValue9
 t20 := Tryz.underlying20
 a20 := Tryz.isAgg20
 z20 := Tryz.sizeOf20
 v20 := Tryz.zeroValue20
 t21 := Tryz.underlying21
 a21 := Tryz.isAgg21
 z21 := Tryz.sizeOf21
 v21 := Tryz.zeroValue21
 t37 := Tryz.underlying56
 a37 := Tryz.isAgg56
 z37 := Tryz.sizeOf56
 v37 := Tryz.zeroValue56
 t46 := Tryz.underlying145
 a46 := Tryz.isAgg145
 z46 := Tryz.sizeOf145
 v46 := Tryz.zeroValue145
 t51 := Tryz.underlying139
 a51 := Tryz.isAgg139
 z51 := Tryz.sizeOf139
 v51 := Tryz.zeroValue139
 t53 := Tryz.underlying41
 a53 := Tryz.isAgg41
 z53 := Tryz.sizeOf41
 v53 := Tryz.zeroValue41
 t75 := Tryz.underlying70
 a75 := Tryz.isAgg70
 z75 := Tryz.sizeOf70
 v75 := Tryz.zeroValue70
 t76 := Tryz.underlying71
 a76 := Tryz.isAgg71
 z76 := Tryz.sizeOf71
 v76 := Tryz.zeroValue71
 t85 := Tryz.underlying175
 a85 := Tryz.isAgg175
 z85 := Tryz.sizeOf175
 v85 := Tryz.zeroValue175
 t127 := Tryz.underlying90
 a127 := Tryz.isAgg90
 z127 := Tryz.sizeOf90
 v127 := Tryz.zeroValue90
 t143 := Tryz.underlying187
 a143 := Tryz.isAgg187
 z143 := Tryz.sizeOf187
 v143 := Tryz.zeroValue187
 t145 := Tryz.underlying189
 a145 := Tryz.isAgg189
 z145 := Tryz.sizeOf189
 v145 := Tryz.zeroValue189
 t167 := Tryz.underlying174
 a167 := Tryz.isAgg174
 z167 := Tryz.sizeOf174
 v167 := Tryz.zeroValue174
 t168 := Tryz.underlying177
 a168 := Tryz.isAgg177
 z168 := Tryz.sizeOf177
 v168 := Tryz.zeroValue177
 t171 := Tryz.underlying116
 a171 := Tryz.isAgg116
 z171 := Tryz.sizeOf116
 v171 := Tryz.zeroValue116
 t173 := Tryz.underlying119
 a173 := Tryz.isAgg119
 z173 := Tryz.sizeOf119
 v173 := Tryz.zeroValue119
 t175 := Tryz.underlying180
 a175 := Tryz.isAgg180
 z175 := Tryz.sizeOf180
 v175 := Tryz.zeroValue180
 t210 := Tryz.underlying184
 a210 := Tryz.isAgg184
 z210 := Tryz.sizeOf184
 v210 := Tryz.zeroValue184
 t212 := Tryz.underlying143
 a212 := Tryz.isAgg143
 z212 := Tryz.sizeOf143
 v212 := Tryz.zeroValue143
 t213 := Tryz.underlying144
 a213 := Tryz.isAgg144
 z213 := Tryz.sizeOf144
 t232 := Tryz.underlying171
 a232 := Tryz.isAgg171
 z232 := Tryz.sizeOf171
 v232 := Tryz.zeroValue171
 t233 := Tryz.underlying172
 a233 := Tryz.isAgg172
 z233 := Tryz.sizeOf172
 v233 := Tryz.zeroValue172
 g15 := by kernel_rfl
 g16 := by kernel_rfl
 g17 := by kernel_rfl
 g18 := by kernel_rfl
 g19 := by kernel_rfl
 t80 := Tryz.underlying60
 a80 := Tryz.isAgg60
 z80 := Tryz.sizeOf60
 v80 := Tryz.zeroValue60
 i0 := by kernel_rfl
 i2 := by kernel_rfl
 i3 := by kernel_rfl
 i4 := by kernel_rfl
 i5 := by kernel_rfl
 i9 := by kernel_rfl
 i20 := by kernel_rfl
 i21 := by kernel_rfl
 i37 := by kernel_rfl
 i46 := by kernel_rfl
 i51 := by kernel_rfl
 i53 := by kernel_rfl
 i75 := by kernel_rfl
 i76 := by kernel_rfl
 i80 := by kernel_rfl
 i85 := by kernel_rfl
 i127 := by kernel_rfl
 i143 := by kernel_rfl
 i145 := by kernel_rfl
 i167 := by kernel_rfl
 i168 := by kernel_rfl
 i171 := by kernel_rfl
 i173 := by kernel_rfl
 i175 := by kernel_rfl
 i210 := by kernel_rfl
 i212 := by kernel_rfl
 i232 := by kernel_rfl
 i233 := by kernel_rfl
 m15 := by kernel_rfl
 m16 := by kernel_rfl
 m17 := by kernel_rfl
 m18 := by kernel_rfl
 m19 := by kernel_rfl
 c0 := by kernel_rfl
 c2 := by kernel_rfl
 c3 := by kernel_rfl
 c4 := by kernel_rfl
 c5 := by kernel_rfl
 c9 := by kernel_rfl
 c20 := by kernel_rfl
 c21 := by kernel_rfl
 c37 := by kernel_rfl
 c46 := by kernel_rfl
 c51 := by kernel_rfl
 c53 := by kernel_rfl
 c75 := by kernel_rfl
 c76 := by kernel_rfl
 c80 := by kernel_rfl
 c85 := by kernel_rfl
 c127 := by kernel_rfl
 c143 := by kernel_rfl
 c145 := by kernel_rfl
 c167 := by kernel_rfl
 c168 := by kernel_rfl
 c171 := by kernel_rfl
 c173 := by kernel_rfl
 c175 := by kernel_rfl
 c210 := by kernel_rfl
 c212 := by kernel_rfl
 c213 := by kernel_rfl
 c232 := by kernel_rfl
 c233 := by kernel_rfl }
open Go.RowKit in
/-- strconv.Atoi, AT EVERY STRING THAT SPELLS AN int ('Lib.atoiAll .. = .ok v'; of whatever length: leading zeros count): v, AND NO ERROR. The world: as it was, or with the one new row that '[]byte(..)' lays. (LAID: no walk: one application.) -/
theorem Tryz.strconv_Atoi_ok (s : ByteArray) (hmax : s.size ≤ 9223372036854775806) (v : Int) (h : Lib.atoiAll s.data.toList = .ok v) (w : World) :
  Calls Tryz.prog 125 #[.string s] w fun e w' => e = .returned (.tuple #[.int .i64 v, .nilIface]) ∧ (w' = w ∨ ∃ t, w' = Lib.bytesWorld w 5 t) := Any.strconv_Atoi_ok Tryz.laysC172 s hmax v h w
open Go.RowKit in
/-- strconv.Atoi, AT EVERY STRING THAT IS NO DECIMAL NUMERAL ('.syntax'): 0, AND AN ERROR THAT IS NOT nil: a *NumError in a new block N: {Func: "Atoi", Num: s's bytes, Err: what the variable ErrSyntax holds}. Of what was there nothing has turned. (LAID: no walk: one application.) -/
theorem Tryz.strconv_Atoi_syntax (s : ByteArray) (hlim : s.size ≤ 281474976710656) (h : Lib.atoiAll s.data.toList = Lib.atoiAll []) (ev : Value) (w : World) (hv : w.cell? ⟨14, 0, none⟩ = some ev) (hev : ev = .nilIface ∨ ∃ te pe, ev = .iface te pe) :
  Calls Tryz.prog 125 #[.string s] w fun e w' => ∃ N, e = .returned (.tuple #[.int .i64 (0), .iface 177 (.pointer (some ⟨N, 0, none⟩))]) ∧ w.heap.size ≤ N ∧ w'.heap[N]? = some (.cells #[.string ⟨#[65, 116, 111, 105]⟩, .string s, ev] 184 (0, 0)) ∧ Below w.heap.size w w' := Any.strconv_Atoi_syntax Tryz.laysC172 s hlim h ev w hv hev
open Go.RowKit in
/-- strconv.Atoi, AT EVERY NUMERAL THAT NO int HOLDS ('.range'): THE GREATEST OR THE LEAST int, BY THE SIGN ('Lib.atoiSat'), AND AN ERROR THAT IS NOT nil: a *NumError in a new block N: {Func: "Atoi", Num: s's bytes, Err: what the variable ErrRange holds}. Of what was there nothing has turned. (LAID: no walk: one application.) -/
theorem Tryz.strconv_Atoi_range (s : ByteArray) (hlim : s.size ≤ 281474976710656) (h : Lib.atoiAll s.data.toList = .range) (ev : Value) (w : World) (hv : w.cell? ⟨15, 0, none⟩ = some ev) (hev : ev = .nilIface ∨ ∃ te pe, ev = .iface te pe) :
  Calls Tryz.prog 125 #[.string s] w fun e w' => ∃ N, e = .returned (.tuple #[.int .i64 (Lib.atoiSat s.data.toList), .iface 177 (.pointer (some ⟨N, 0, none⟩))]) ∧ w.heap.size ≤ N ∧ w'.heap[N]? = some (.cells #[.string ⟨#[65, 116, 111, 105]⟩, .string s, ev] 184 (0, 0)) ∧ Below w.heap.size w w' := Any.strconv_Atoi_range Tryz.laysC172 s hlim h ev w hv hev
def Tryz.lays198_ren : Go.Shelf.Ren := ⟨fun | 198 => 122 | 261 => 98 | 311 => 116 | 312 => 117 | n => n, fun | 21 => 21 | 4 => 4 | 141 => 141 | 0 => 0 | 196 => 157 | 193 => 154 | 3 => 3 | 51 => 139 | 198 => 160 | 49 => 158 | 194 => 155 | 201 => 163 | 226 => 169 | 46 => 145 | 227 => 170 | n => n, fun | 5 => 11 | n => n⟩
theorem Tryz.lays198 : Go.Proofs.Lays.n198 Tryz.prog Tryz.lays198_ren := {
 mixed := by kernel_rfl
 f198 := Tryz.func122.trans (congrArg some (by kernel_rfl))
 f261 := Tryz.func98.trans (congrArg some (by kernel_rfl))
 f311 := Tryz.func116.trans (congrArg some (by kernel_rfl))
 f312 := Tryz.func117.trans (congrArg some (by kernel_rfl))
 t0 := Tryz.underlying0
 a0 := Tryz.isAgg0
 z0 := Tryz.sizeOf0
 v0 := Tryz.zeroValue0
 t3 := Tryz.underlying3
 a3 := Tryz.isAgg3
 z3 := Tryz.sizeOf3
 v3 := Tryz.zeroValue3
 t4 := Tryz.underlying4
 a4 := Tryz.isAgg4
 z4 := Tryz.sizeOf4
 v4 := Tryz.zeroValue4
 t21 := Tryz.underlying21
 a21 := Tryz.isAgg21
 z21 := Tryz.sizeOf21
 v21 := Tryz.zeroValue21
 t46 := Tryz.underlying145
 a46 := Tryz.isAgg145
 z46 := Tryz.sizeOf145
 v46 := Tryz.zeroValue145
 t49 := Tryz.underlying158
 a49 := Tryz.isAgg158
 z49 := Tryz.sizeOf158
 v49 := Tryz.zeroValue158
 t51 := Tryz.underlying139
 a51 := Tryz.isAgg139
 z51 := Tryz.sizeOf139
 v51 := Tryz.zeroValue139
 t141 := Tryz.underlying141
 a141 := Tryz.isAgg141
 z141 := Tryz.sizeOf141
 v141 := Tryz.zeroValue141
 t193 := Tryz.underlying154
 a193 := Tryz.isAgg154
 z193 := Tryz.sizeOf154
 v193 := Tryz.zeroValue154
 t194 := Tryz.underlying155
 a194 := Tryz.isAgg155
 z194 := Tryz.sizeOf155
 v194 := Tryz.zeroValue155
 t196 := Tryz.underlying157
 a196 := Tryz.isAgg157
 z196 := Tryz.sizeOf157
 v196 := Tryz.zeroValue157
 t198 := Tryz.underlying160
 a198 := Tryz.isAgg160
 z198 := Tryz.sizeOf160
 v198 := Tryz.zeroValue160
 t201 := Tryz.underlying163
 a201 := Tryz.isAgg163
 z201 := Tryz.sizeOf163
 v201 := Tryz.zeroValue163
 t226 := Tryz.underlying169
 a226 := Tryz.isAgg169
 z226 := Tryz.sizeOf169
 v226 := Tryz.zeroValue169
 t227 := Tryz.underlying170
 a227 := Tryz.isAgg170
 z227 := Tryz.sizeOf170
 v227 := Tryz.zeroValue170
 g5 := by kernel_rfl }
open Go.RowKit Go.Lib in
theorem Tryz.unicode_IsDigit (r : Int) (w : World) (h : r ≤ 255) :
  Calls Tryz.prog 122 #[.int .i32 r] w fun e w' => e = .returned (.bool (Lib.isDigitL r)) ∧ w' = w := Any.unicode_IsDigit Tryz.lays198 r w h
def Tryz.lays200_ren : Go.Shelf.Ren := ⟨fun | 200 => 127 | 261 => 98 | 311 => 116 | 312 => 117 | n => n, fun | 21 => 21 | 4 => 4 | 51 => 139 | 5 => 5 | 119 => 113 | 0 => 0 | 141 => 141 | 196 => 157 | 193 => 154 | 3 => 3 | 198 => 160 | 49 => 158 | 194 => 155 | 201 => 163 | 226 => 169 | 46 => 145 | 227 => 170 | n => n, fun | 7 => 12 | 8 => 13 | n => n⟩
theorem Tryz.lays200 : Go.Proofs.Lays.n200 Tryz.prog Tryz.lays200_ren := {
 mixed := by kernel_rfl
 f200 := Tryz.func127.trans (congrArg some (by kernel_rfl))
 f261 := Tryz.func98.trans (congrArg some (by kernel_rfl))
 f311 := Tryz.func116.trans (congrArg some (by kernel_rfl))
 f312 := Tryz.func117.trans (congrArg some (by kernel_rfl))
 t0 := Tryz.underlying0
 a0 := Tryz.isAgg0
 z0 := Tryz.sizeOf0
 v0 := Tryz.zeroValue0
 t3 := Tryz.underlying3
 a3 := Tryz.isAgg3
 z3 := Tryz.sizeOf3
 v3 := Tryz.zeroValue3
 t4 := Tryz.underlying4
 a4 := Tryz.isAgg4
 z4 := Tryz.sizeOf4
 v4 := Tryz.zeroValue4
 t5 := Tryz.underlying5
 a5 := Tryz.isAgg5
 z5 := Tryz.sizeOf5
 v5 := Tryz.zeroValue5
 t21 := Tryz.underlying21
 a21 := Tryz.isAgg21
 z21 := Tryz.sizeOf21
 v21 := Tryz.zeroValue21
 t46 := Tryz.underlying145
 a46 := Tryz.isAgg145
 z46 := Tryz.sizeOf145
 v46 := Tryz.zeroValue145
 t49 := Tryz.underlying158
 a49 := Tryz.isAgg158
 z49 := Tryz.sizeOf158
 v49 := Tryz.zeroValue158
 t51 := Tryz.underlying139
 a51 := Tryz.isAgg139
 z51 := Tryz.sizeOf139
 v51 := Tryz.zeroValue139
 t119 := Tryz.underlying113
 a119 := Tryz.isAgg113
 z119 := Tryz.sizeOf113
 t141 := Tryz.underlying141
 a141 := Tryz.isAgg141
 z141 := Tryz.sizeOf141
 v141 := Tryz.zeroValue141
 t193 := Tryz.underlying154
 a193 := Tryz.isAgg154
 z193 := Tryz.sizeOf154
 v193 := Tryz.zeroValue154
 t194 := Tryz.underlying155
 a194 := Tryz.isAgg155
 z194 := Tryz.sizeOf155
 v194 := Tryz.zeroValue155
 t196 := Tryz.underlying157
 a196 := Tryz.isAgg157
 z196 := Tryz.sizeOf157
 v196 := Tryz.zeroValue157
 t198 := Tryz.underlying160
 a198 := Tryz.isAgg160
 z198 := Tryz.sizeOf160
 v198 := Tryz.zeroValue160
 t201 := Tryz.underlying163
 a201 := Tryz.isAgg163
 z201 := Tryz.sizeOf163
 v201 := Tryz.zeroValue163
 t226 := Tryz.underlying169
 a226 := Tryz.isAgg169
 z226 := Tryz.sizeOf169
 v226 := Tryz.zeroValue169
 t227 := Tryz.underlying170
 a227 := Tryz.isAgg170
 z227 := Tryz.sizeOf170
 v227 := Tryz.zeroValue170
 g7 := by kernel_rfl
 g8 := by kernel_rfl }
open Go.RowKit Go.Lib in
theorem Tryz.unicode_IsLetter (c : Nat) (w : World) (hc : c < 256) (htab : Lib.TabIs Tryz.prog w "unicode.properties" .u8 Lib.propertiesTab) :
  Calls Tryz.prog 127 #[.int .i32 c] w fun e w' => e = .returned (.bool (Lib.isLetterL c)) ∧ w' = w := Any.unicode_IsLetter Tryz.lays200 (by kernel_rfl) c w hc htab
end Go.Proofs
