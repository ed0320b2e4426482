/-
  DERIVED: THE SHELF's CONTRACTS AT THIS DUMP, IN PLAIN WORDS (tools/lay-plain.mjs out of 'TryzShelf.lean', which tools/lay-shelf.mjs wrote): THE SAME DECLARATIONS UNDER THE SAME NAMES: 'import', 'namespace', 'open', 'def', 'theorem' AND NOTHING ELSE: no command of the shelf's: FOR A HAND-IN. Each laying: the table of numbers ('.._ren') and one theorem, a field a fact of the dump's own or the kernel's comparison; each contract: ONE APPLICATION.
-/
import Derived.Shelf.Small.Strs
import Derived.Shelf.Strconv.Atoi
import Derived.Shelf.Strconv.Itoa0
import Derived.Shelf.Strconv.Itoa1
import Derived.Shelf.LaysM
import Derived.Shelf.Strconv.Itoa2
import Derived.Shelf.Strconv.Itoa3
import Derived.Shelf.Strconv.AtoiErrFast
import Derived.Shelf.Strconv.ParseIntEmpty
import Derived.Shelf.Strconv.AtoiFail
import Derived.Shelf.Strconv.Clone
import Derived.Shelf.Strconv.SyntaxError
import Derived.Shelf.LaysC
import Derived.Shelf.Strconv.ToError
import Derived.Shelf.Strconv.Lower
import Derived.Shelf.Strconv.ParseUint10
import Derived.Shelf.Strconv.ParseUint10Empty
import Derived.Shelf.Strconv.ParseUint10Any
import Derived.Shelf.Strconv.ParseInt10
import Derived.Shelf.Strconv.AtoiLong
import Derived.Shelf.Strconv.AtoiInnerAll
import Derived.Shelf.Strconv.RangeError
import Derived.Shelf.Strconv.ToErrorRange
import Derived.Shelf.Strconv.AtoiAll
import Derived.Shelf.Strconv.ErrVarAll
import Derived.Shelf.Strings.Search1
import Derived.Shelf.Unicode.Latin
import Derived.Shelf.Unicode.Props
import Derived.Shelf.Unicode.Is16White
import Derived.Shelf.Unicode.IsSpaceAny
import Derived.Shelf.Unicode.Is16Any
import Derived.Shelf.Unicode.Is32Any
import Derived.Shelf.Unicode.ExclAny
import Derived.Shelf.Unicode.PredsAny
import Derived.Shelf.Bytes.SlIndexSmall
import Derived.Shelf.Bytes.SlIndexAt
import Derived.Shelf.Bytes.SlSearch0
import Derived.Shelf.Bytes.SlSearch1
import Derived.Shelf.Bytes.SlSearch2
import Derived.Shelf.Bytes.SlIndexWhole
import Derived.Ground.SlbtProg
import Derived.Shelf.Bytes.SlCut
import Derived.Shelf.Bytes.Small
import Derived.Shelf.Bytes.IndexByte
import Derived.Test.YtmofdnlefjfcfaaGreatDoorProg
namespace Go.Proofs
open Go.Shelf
def Tryz.lays137_ren : Go.Shelf.Ren := ⟨fun | 137 => 62 | 217 => 99 | 266 => 121 | n => n, fun | 9 => 9 | 5 => 5 | 3 => 3 | n => n, fun | n => n⟩
theorem Tryz.lays137 : Go.Proofs.Lays.n137 Tryz.prog Tryz.lays137_ren := {
 mixed := by kernel_rfl
 f137 := Tryz.func62.trans (congrArg some (by kernel_rfl))
 f217 := Tryz.func99.trans (congrArg some (by kernel_rfl))
 f266 := Tryz.func121.trans (congrArg some (by kernel_rfl))
 t3 := Tryz.underlying3
 a3 := Tryz.isAgg3
 z3 := Tryz.sizeOf3
 v3 := Tryz.zeroValue3
 t5 := Tryz.underlying5
 a5 := Tryz.isAgg5
 z5 := Tryz.sizeOf5
 v5 := Tryz.zeroValue5
 t9 := Tryz.underlying9
 a9 := Tryz.isAgg9
 z9 := Tryz.sizeOf9
 v9 := Tryz.zeroValue9 }
open Go.RowKit in
/-- strings.IndexByte: "IndexByte returns the index of the first instance of c in s, or -1 if c is not present in s.": IT RETURNS 'Lib.indexByte s c'; the world is as it was. (LAID: no walk: one application.) -/
theorem Tryz.strings_IndexByte (s : ByteArray) (c : Int) (w : World) :
  Calls Tryz.prog 62 #[.string s, .int .u8 c] w fun e w' => e = .returned (.int .i64 (Lib.indexByte s.data.toList c.toNat.toUInt8)) ∧ w' = w := Any.strings_IndexByte Tryz.lays137 s c w
open Go.RowKit in
open Go.RowKit in
open Go.Lib in
open Go.Lib in
open Go.Lib in
open Go.Lib in
open Go.RowKit Go.Sort Go.Lib in
open Go.RowKit Go.Sort Go.Lib in
open Go.RowKit Go.Sort Go.Lib in
open Go.RowKit Go.Sort Go.Lib in
open Go.RowKit Go.Sort Go.Lib in
open Go.RowKit Go.Sort Go.Lib in
def Tryz.lays171_ren : Go.Shelf.Ren := ⟨fun | 171 => 185 | 243 => 193 | 246 => 197 | 283 => 200 | 284 => 201 | 285 => 202 | 286 => 203 | 129 => 205 | 317 => 204 | 318 => 206 | 319 => 207 | 320 => 208 | 337 => 209 | 338 => 210 | n => n, fun | 3 => 3 | 9 => 9 | 2 => 2 | 4 => 4 | 171 => 264 | 0 => 0 | 53 => 146 | 37 => 28 | 5 => 5 | 173 => 267 | 212 => 270 | 51 => 222 | 20 => 20 | 213 => 271 | 46 => 155 | 232 => 274 | 233 => 275 | n => n, fun | 17 => 9 | 18 => 10 | 19 => 11 | n => n⟩
theorem Tryz.lays171 : Go.Proofs.Lays.n171 Tryz.prog Tryz.lays171_ren := {
 mixed := by kernel_rfl
 f129 := Tryz.func205.trans (congrArg some (by kernel_rfl))
 f171 := Tryz.func185.trans (congrArg some (by kernel_rfl))
 f243 := Tryz.func193.trans (congrArg some (by kernel_rfl))
 f246 := Tryz.func197.trans (congrArg some (by kernel_rfl))
 f283 := Tryz.func200.trans (congrArg some (by kernel_rfl))
 f284 := Tryz.func201.trans (congrArg some (by kernel_rfl))
 f285 := Tryz.func202.trans (congrArg some (by kernel_rfl))
 f286 := Tryz.func203.trans (congrArg some (by kernel_rfl))
 f317 := Tryz.func204.trans (congrArg some (by kernel_rfl))
 f318 := Tryz.func206.trans (congrArg some (by kernel_rfl))
 f319 := Tryz.func207.trans (congrArg some (by kernel_rfl))
 f320 := Tryz.func208.trans (congrArg some (by kernel_rfl))
 f337 := Tryz.func209.trans (congrArg some (by kernel_rfl))
 f338 := Tryz.func210.trans (congrArg some (by kernel_rfl))
 t0 := Tryz.underlying0
 a0 := Tryz.isAgg0
 z0 := Tryz.sizeOf0
 v0 := Tryz.zeroValue0
 t2 := Tryz.underlying2
 a2 := Tryz.isAgg2
 z2 := Tryz.sizeOf2
 v2 := Tryz.zeroValue2
 t3 := Tryz.underlying3
 a3 := Tryz.isAgg3
 z3 := Tryz.sizeOf3
 v3 := Tryz.zeroValue3
 t4 := Tryz.underlying4
 a4 := Tryz.isAgg4
 z4 := Tryz.sizeOf4
 v4 := Tryz.zeroValue4
 t5 := Tryz.underlying5
 a5 := Tryz.isAgg5
 z5 := Tryz.sizeOf5
 v5 := Tryz.zeroValue5
 t9 := Tryz.underlying9
 a9 := Tryz.isAgg9
 z9 := Tryz.sizeOf9
 v9 := Tryz.zeroValue9
 t20 := Tryz.underlying20
 a20 := Tryz.isAgg20
 z20 := Tryz.sizeOf20
 v20 := Tryz.zeroValue20
 t37 := Tryz.underlying28
 a37 := Tryz.isAgg28
 z37 := Tryz.sizeOf28
 v37 := Tryz.zeroValue28
 t46 := Tryz.underlying155
 a46 := Tryz.isAgg155
 z46 := Tryz.sizeOf155
 v46 := Tryz.zeroValue155
 t51 := Tryz.underlying222
 a51 := Tryz.isAgg222
 z51 := Tryz.sizeOf222
 v51 := Tryz.zeroValue222
 t53 := Tryz.underlying146
 a53 := Tryz.isAgg146
 z53 := Tryz.sizeOf146
 v53 := Tryz.zeroValue146
 t171 := Tryz.underlying264
 a171 := Tryz.isAgg264
 z171 := Tryz.sizeOf264
 v171 := Tryz.zeroValue264
 t173 := Tryz.underlying267
 a173 := Tryz.isAgg267
 z173 := Tryz.sizeOf267
 v173 := Tryz.zeroValue267
 t212 := Tryz.underlying270
 a212 := Tryz.isAgg270
 z212 := Tryz.sizeOf270
 v212 := Tryz.zeroValue270
 t213 := Tryz.underlying271
 a213 := Tryz.isAgg271
 z213 := Tryz.sizeOf271
 t232 := Tryz.underlying274
 a232 := Tryz.isAgg274
 z232 := Tryz.sizeOf274
 v232 := Tryz.zeroValue274
 t233 := Tryz.underlying275
 a233 := Tryz.isAgg275
 z233 := Tryz.sizeOf275
 v233 := Tryz.zeroValue275
 g17 := by kernel_rfl
 g18 := by kernel_rfl
 g19 := by kernel_rfl }
open Go.RowKit Go.Sort Go.Lib in
/-- THE ROAD WITHOUT THE TABLE: 0 <= i < 100: NO PREMISE ON THE WORLD, AND THE WORLD IS AS IT WAS: a row that keeps its argument in that range need list no table ('laid = []'). (LAID: no walk: one application.) -/
theorem Tryz.strconv_Itoa_small (i : Nat) (hi : i < 100) (w : World) :
  Calls Tryz.prog 185 #[.int .i64 i] w fun e w' => e = .returned (.string ⟨(Lib.decDigits i).toArray⟩) ∧ w' = w := Any.strconv_Itoa_small Tryz.lays171 i hi w
open Go.RowKit in
open Go.RowKit in
open Go.RowKit in
open Go.RowKit in
open Go.RowKit in
open Go.RowKit in
open Go.RowKit in
open Go.RowKit in
open Go.RowKit in
open Go.RowKit in
open Go.RowKit in
open Go.RowKit in
open Go.RowKit in
open Go.RowKit in
open Go.RowKit in
open Go.RowKit in
def Tryz.laysC172_ren : Go.Shelf.Ren := ⟨fun | 172 => 179 | 244 => 183 | 245 => 184 | 247 => 188 | 279 => 189 | 280 => 190 | 281 => 191 | 282 => 192 | 287 => 194 | 316 => 195 | 171 => 185 | 205 => 196 | 321 => 198 | 322 => 199 | 243 => 193 | 246 => 197 | 283 => 200 | 284 => 201 | 285 => 202 | 286 => 203 | 129 => 205 | 317 => 204 | 318 => 206 | 319 => 207 | 320 => 208 | 337 => 209 | 338 => 210 | n => n, fun | 9 => 9 | 3 => 3 | 75 => 226 | 76 => 227 | 4 => 4 | 5 => 5 | 167 => 244 | 37 => 28 | 0 => 0 | 85 => 245 | 2 => 2 | 168 => 247 | 53 => 146 | 175 => 252 | 46 => 155 | 210 => 256 | 127 => 260 | 145 => 263 | 143 => 261 | 21 => 21 | 171 => 264 | 173 => 267 | 212 => 270 | 51 => 222 | 20 => 20 | 213 => 271 | 232 => 274 | 233 => 275 | 80 => 276 | n => n, fun | 15 => 7 | 16 => 8 | 17 => 9 | 18 => 10 | 19 => 11 | n => n⟩
theorem Tryz.laysC172 : Go.Proofs.LaysC.n172 Tryz.prog Tryz.laysC172_ren := {
 mixed := by kernel_rfl
 f129 := Tryz.func205.trans (congrArg some (by kernel_rfl))
 f171 := Tryz.func185.trans (congrArg some (by kernel_rfl))
 f172 := Tryz.func179.trans (congrArg some (by kernel_rfl))
 f205 := Tryz.func196.trans (congrArg some (by kernel_rfl))
 f243 := Tryz.func193.trans (congrArg some (by kernel_rfl))
 f244 := Tryz.func183.trans (congrArg some (by kernel_rfl))
 f245 := Tryz.func184.trans (congrArg some (by kernel_rfl))
 f246 := Tryz.func197.trans (congrArg some (by kernel_rfl))
 f247 := Tryz.func188.trans (congrArg some (by kernel_rfl))
 f279 := Tryz.func189.trans (congrArg some (by kernel_rfl))
 f280 := Tryz.func190.trans (congrArg some (by kernel_rfl))
 f281 := Tryz.func191.trans (congrArg some (by kernel_rfl))
 f282 := Tryz.func192.trans (congrArg some (by kernel_rfl))
 f283 := Tryz.func200.trans (congrArg some (by kernel_rfl))
 f284 := Tryz.func201.trans (congrArg some (by kernel_rfl))
 f285 := Tryz.func202.trans (congrArg some (by kernel_rfl))
 f286 := Tryz.func203.trans (congrArg some (by kernel_rfl))
 f287 := Tryz.func194.trans (congrArg some (by kernel_rfl))
 f316 := Tryz.func195.trans (congrArg some (by kernel_rfl))
 f317 := Tryz.func204.trans (congrArg some (by kernel_rfl))
 f318 := Tryz.func206.trans (congrArg some (by kernel_rfl))
 f319 := Tryz.func207.trans (congrArg some (by kernel_rfl))
 f320 := Tryz.func208.trans (congrArg some (by kernel_rfl))
 f321 := Tryz.func198.trans (congrArg some (by kernel_rfl))
 f322 := Tryz.func199.trans (congrArg some (by kernel_rfl))
 f337 := Tryz.func209.trans (congrArg some (by kernel_rfl))
 f338 := Tryz.func210.trans (congrArg some (by kernel_rfl))
 t0 := Tryz.underlying0
 a0 := Tryz.isAgg0
 z0 := Tryz.sizeOf0
 v0 := Tryz.zeroValue0
 t2 := Tryz.underlying2
 a2 := Tryz.isAgg2
 z2 := Tryz.sizeOf2
 v2 := Tryz.zeroValue2
 t3 := Tryz.underlying3
 a3 := Tryz.isAgg3
 z3 := Tryz.sizeOf3
 v3 := Tryz.zeroValue3
 t4 := Tryz.underlying4
 a4 := Tryz.isAgg4
 z4 := Tryz.sizeOf4
 v4 := Tryz.zeroValue4
 t5 := Tryz.underlying5
 a5 := Tryz.isAgg5
 z5 := Tryz.sizeOf5
 v5 := Tryz.zeroValue5
 t9 := Tryz.underlying9
 a9 := Tryz.isAgg9
 z9 := Tryz.sizeOf9
 v9 := Tryz.zeroValue9
 t20 := Tryz.underlying20
 a20 := Tryz.isAgg20
 z20 := Tryz.sizeOf20
 v20 := Tryz.zeroValue20
 t21 := Tryz.underlying21
 a21 := Tryz.isAgg21
 z21 := Tryz.sizeOf21
 v21 := Tryz.zeroValue21
 t37 := Tryz.underlying28
 a37 := Tryz.isAgg28
 z37 := Tryz.sizeOf28
 v37 := Tryz.zeroValue28
 t46 := Tryz.underlying155
 a46 := Tryz.isAgg155
 z46 := Tryz.sizeOf155
 v46 := Tryz.zeroValue155
 t51 := Tryz.underlying222
 a51 := Tryz.isAgg222
 z51 := Tryz.sizeOf222
 v51 := Tryz.zeroValue222
 t53 := Tryz.underlying146
 a53 := Tryz.isAgg146
 z53 := Tryz.sizeOf146
 v53 := Tryz.zeroValue146
 t75 := Tryz.underlying226
 a75 := Tryz.isAgg226
 z75 := Tryz.sizeOf226
 v75 := Tryz.zeroValue226
 t76 := Tryz.underlying227
 a76 := Tryz.isAgg227
 z76 := Tryz.sizeOf227
 v76 := Tryz.zeroValue227
 t85 := Tryz.underlying245
 a85 := Tryz.isAgg245
 z85 := Tryz.sizeOf245
 v85 := Tryz.zeroValue245
 t127 := Tryz.underlying260
 a127 := Tryz.isAgg260
 z127 := Tryz.sizeOf260
 v127 := Tryz.zeroValue260
 t143 := Tryz.underlying261
 a143 := Tryz.isAgg261
 z143 := Tryz.sizeOf261
 v143 := Tryz.zeroValue261
 t145 := Tryz.underlying263
 a145 := Tryz.isAgg263
 z145 := Tryz.sizeOf263
 v145 := Tryz.zeroValue263
 t167 := Tryz.underlying244
 a167 := Tryz.isAgg244
 z167 := Tryz.sizeOf244
 v167 := Tryz.zeroValue244
 t168 := Tryz.underlying247
 a168 := Tryz.isAgg247
 z168 := Tryz.sizeOf247
 v168 := Tryz.zeroValue247
 t171 := Tryz.underlying264
 a171 := Tryz.isAgg264
 z171 := Tryz.sizeOf264
 v171 := Tryz.zeroValue264
 t173 := Tryz.underlying267
 a173 := Tryz.isAgg267
 z173 := Tryz.sizeOf267
 v173 := Tryz.zeroValue267
 t175 := Tryz.underlying252
 a175 := Tryz.isAgg252
 z175 := Tryz.sizeOf252
 v175 := Tryz.zeroValue252
 t210 := Tryz.underlying256
 a210 := Tryz.isAgg256
 z210 := Tryz.sizeOf256
 v210 := Tryz.zeroValue256
 t212 := Tryz.underlying270
 a212 := Tryz.isAgg270
 z212 := Tryz.sizeOf270
 v212 := Tryz.zeroValue270
 t213 := Tryz.underlying271
 a213 := Tryz.isAgg271
 z213 := Tryz.sizeOf271
 t232 := Tryz.underlying274
 a232 := Tryz.isAgg274
 z232 := Tryz.sizeOf274
 v232 := Tryz.zeroValue274
 t233 := Tryz.underlying275
 a233 := Tryz.isAgg275
 z233 := Tryz.sizeOf275
 v233 := Tryz.zeroValue275
 g15 := by kernel_rfl
 g16 := by kernel_rfl
 g17 := by kernel_rfl
 g18 := by kernel_rfl
 g19 := by kernel_rfl
 t80 := Tryz.underlying276
 a80 := Tryz.isAgg276
 z80 := Tryz.sizeOf276
 v80 := Tryz.zeroValue276
 i0 := by kernel_rfl
 i2 := by kernel_rfl
 i3 := by kernel_rfl
 i4 := by kernel_rfl
 i5 := by kernel_rfl
 i9 := by kernel_rfl
 i20 := by kernel_rfl
 i21 := by kernel_rfl
 i37 := by kernel_rfl
 i46 := by kernel_rfl
 i51 := by kernel_rfl
 i53 := by kernel_rfl
 i75 := by kernel_rfl
 i76 := by kernel_rfl
 i80 := by kernel_rfl
 i85 := by kernel_rfl
 i127 := by kernel_rfl
 i143 := by kernel_rfl
 i145 := by kernel_rfl
 i167 := by kernel_rfl
 i168 := by kernel_rfl
 i171 := by kernel_rfl
 i173 := by kernel_rfl
 i175 := by kernel_rfl
 i210 := by kernel_rfl
 i212 := by kernel_rfl
 i232 := by kernel_rfl
 i233 := by kernel_rfl
 m15 := by kernel_rfl
 m16 := by kernel_rfl
 m17 := by kernel_rfl
 m18 := by kernel_rfl
 m19 := by kernel_rfl
 c0 := by kernel_rfl
 c2 := by kernel_rfl
 c3 := by kernel_rfl
 c4 := by kernel_rfl
 c5 := by kernel_rfl
 c9 := by kernel_rfl
 c20 := by kernel_rfl
 c21 := by kernel_rfl
 c37 := by kernel_rfl
 c46 := by kernel_rfl
 c51 := by kernel_rfl
 c53 := by kernel_rfl
 c75 := by kernel_rfl
 c76 := by kernel_rfl
 c80 := by kernel_rfl
 c85 := by kernel_rfl
 c127 := by kernel_rfl
 c143 := by kernel_rfl
 c145 := by kernel_rfl
 c167 := by kernel_rfl
 c168 := by kernel_rfl
 c171 := by kernel_rfl
 c173 := by kernel_rfl
 c175 := by kernel_rfl
 c210 := by kernel_rfl
 c212 := by kernel_rfl
 c213 := by kernel_rfl
 c232 := by kernel_rfl
 c233 := by kernel_rfl }
open Go.RowKit in
/-- strconv.Atoi, AT EVERY STRING THAT SPELLS AN int ('Lib.atoiAll .. = .ok v'; of whatever length: leading zeros count): v, AND NO ERROR. The world: as it was, or with the one new row that '[]byte(..)' lays. (LAID: no walk: one application.) -/
theorem Tryz.strconv_Atoi_ok (s : ByteArray) (hmax : s.size ≤ 9223372036854775806) (v : Int) (h : Lib.atoiAll s.data.toList = .ok v) (w : World) :
  Calls Tryz.prog 179 #[.string s] w fun e w' => e = .returned (.tuple #[.int .i64 v, .nilIface]) ∧ (w' = w ∨ ∃ t, w' = Lib.bytesWorld w 5 t) := Any.strconv_Atoi_ok Tryz.laysC172 s hmax v h w
open Go.RowKit in
open Go.RowKit in
open Go.RowKit in
theorem Tryz.strconv_Atoi_syntax_var (s : ByteArray) (hlim : s.size ≤ 281474976710656) (h : Lib.atoiAll s.data.toList = Lib.atoiAll []) (tp : TypeId) (p : Value) (w : World) (hvar : w.var? Tryz.prog "strconv.ErrSyntax" = some #[.iface tp p]) :
  Calls Tryz.prog 179 #[.string s] w fun e w' => ∃ N, e = .returned (.tuple #[.int .i64 0, .iface 247 (.pointer (some ⟨N, 0, none⟩))]) ∧ w.heap.size ≤ N ∧ w'.heap[N]? = some (.cells #[.string ⟨#[65, 116, 111, 105]⟩, .string s, .iface tp p] 256 (0, 0)) ∧ Below w.heap.size w w' := Any.strconv_Atoi_syntax_var Tryz.laysC172 s hlim h tp p w hvar
open Go.RowKit in
theorem Tryz.strconv_Atoi_range_var (s : ByteArray) (hlim : s.size ≤ 281474976710656) (h : Lib.atoiAll s.data.toList = .range) (tp : TypeId) (p : Value) (w : World) (hvar : w.var? Tryz.prog "strconv.ErrRange" = some #[.iface tp p]) :
  Calls Tryz.prog 179 #[.string s] w fun e w' => ∃ N, e = .returned (.tuple #[.int .i64 (Lib.atoiSat s.data.toList), .iface 247 (.pointer (some ⟨N, 0, none⟩))]) ∧ w.heap.size ≤ N ∧ w'.heap[N]? = some (.cells #[.string ⟨#[65, 116, 111, 105]⟩, .string s, .iface tp p] 256 (0, 0)) ∧ Below w.heap.size w w' := Any.strconv_Atoi_range_var Tryz.laysC172 s hlim h tp p w hvar
open Go.RowKit Go.Lib in
open Go.RowKit Go.Lib in
def Tryz.lays198_ren : Go.Shelf.Ren := ⟨fun | 198 => 174 | 261 => 181 | 311 => 186 | 312 => 187 | n => n, fun | 21 => 21 | 4 => 4 | 141 => 230 | 0 => 0 | 196 => 235 | 193 => 232 | 3 => 3 | 51 => 222 | 198 => 238 | 49 => 236 | 194 => 233 | 201 => 241 | 226 => 250 | 46 => 155 | 227 => 251 | n => n, fun | 5 => 4 | n => n⟩
theorem Tryz.lays198 : Go.Proofs.Lays.n198 Tryz.prog Tryz.lays198_ren := {
 mixed := by kernel_rfl
 f198 := Tryz.func174.trans (congrArg some (by kernel_rfl))
 f261 := Tryz.func181.trans (congrArg some (by kernel_rfl))
 f311 := Tryz.func186.trans (congrArg some (by kernel_rfl))
 f312 := Tryz.func187.trans (congrArg some (by kernel_rfl))
 t0 := Tryz.underlying0
 a0 := Tryz.isAgg0
 z0 := Tryz.sizeOf0
 v0 := Tryz.zeroValue0
 t3 := Tryz.underlying3
 a3 := Tryz.isAgg3
 z3 := Tryz.sizeOf3
 v3 := Tryz.zeroValue3
 t4 := Tryz.underlying4
 a4 := Tryz.isAgg4
 z4 := Tryz.sizeOf4
 v4 := Tryz.zeroValue4
 t21 := Tryz.underlying21
 a21 := Tryz.isAgg21
 z21 := Tryz.sizeOf21
 v21 := Tryz.zeroValue21
 t46 := Tryz.underlying155
 a46 := Tryz.isAgg155
 z46 := Tryz.sizeOf155
 v46 := Tryz.zeroValue155
 t49 := Tryz.underlying236
 a49 := Tryz.isAgg236
 z49 := Tryz.sizeOf236
 v49 := Tryz.zeroValue236
 t51 := Tryz.underlying222
 a51 := Tryz.isAgg222
 z51 := Tryz.sizeOf222
 v51 := Tryz.zeroValue222
 t141 := Tryz.underlying230
 a141 := Tryz.isAgg230
 z141 := Tryz.sizeOf230
 v141 := Tryz.zeroValue230
 t193 := Tryz.underlying232
 a193 := Tryz.isAgg232
 z193 := Tryz.sizeOf232
 v193 := Tryz.zeroValue232
 t194 := Tryz.underlying233
 a194 := Tryz.isAgg233
 z194 := Tryz.sizeOf233
 v194 := Tryz.zeroValue233
 t196 := Tryz.underlying235
 a196 := Tryz.isAgg235
 z196 := Tryz.sizeOf235
 v196 := Tryz.zeroValue235
 t198 := Tryz.underlying238
 a198 := Tryz.isAgg238
 z198 := Tryz.sizeOf238
 v198 := Tryz.zeroValue238
 t201 := Tryz.underlying241
 a201 := Tryz.isAgg241
 z201 := Tryz.sizeOf241
 v201 := Tryz.zeroValue241
 t226 := Tryz.underlying250
 a226 := Tryz.isAgg250
 z226 := Tryz.sizeOf250
 v226 := Tryz.zeroValue250
 t227 := Tryz.underlying251
 a227 := Tryz.isAgg251
 z227 := Tryz.sizeOf251
 v227 := Tryz.zeroValue251
 g5 := by kernel_rfl }
open Go.RowKit Go.Lib in
theorem Tryz.unicode_IsDigit (r : Int) (w : World) (h : r ≤ 255) :
  Calls Tryz.prog 174 #[.int .i32 r] w fun e w' => e = .returned (.bool (Lib.isDigitL r)) ∧ w' = w := Any.unicode_IsDigit Tryz.lays198 r w h
def Tryz.lays200_ren : Go.Shelf.Ren := ⟨fun | 200 => 182 | 261 => 181 | 311 => 186 | 312 => 187 | n => n, fun | 21 => 21 | 4 => 4 | 51 => 222 | 5 => 5 | 119 => 243 | 0 => 0 | 141 => 230 | 196 => 235 | 193 => 232 | 3 => 3 | 198 => 238 | 49 => 236 | 194 => 233 | 201 => 241 | 226 => 250 | 46 => 155 | 227 => 251 | n => n, fun | 7 => 5 | 8 => 6 | n => n⟩
theorem Tryz.lays200 : Go.Proofs.Lays.n200 Tryz.prog Tryz.lays200_ren := {
 mixed := by kernel_rfl
 f200 := Tryz.func182.trans (congrArg some (by kernel_rfl))
 f261 := Tryz.func181.trans (congrArg some (by kernel_rfl))
 f311 := Tryz.func186.trans (congrArg some (by kernel_rfl))
 f312 := Tryz.func187.trans (congrArg some (by kernel_rfl))
 t0 := Tryz.underlying0
 a0 := Tryz.isAgg0
 z0 := Tryz.sizeOf0
 v0 := Tryz.zeroValue0
 t3 := Tryz.underlying3
 a3 := Tryz.isAgg3
 z3 := Tryz.sizeOf3
 v3 := Tryz.zeroValue3
 t4 := Tryz.underlying4
 a4 := Tryz.isAgg4
 z4 := Tryz.sizeOf4
 v4 := Tryz.zeroValue4
 t5 := Tryz.underlying5
 a5 := Tryz.isAgg5
 z5 := Tryz.sizeOf5
 v5 := Tryz.zeroValue5
 t21 := Tryz.underlying21
 a21 := Tryz.isAgg21
 z21 := Tryz.sizeOf21
 v21 := Tryz.zeroValue21
 t46 := Tryz.underlying155
 a46 := Tryz.isAgg155
 z46 := Tryz.sizeOf155
 v46 := Tryz.zeroValue155
 t49 := Tryz.underlying236
 a49 := Tryz.isAgg236
 z49 := Tryz.sizeOf236
 v49 := Tryz.zeroValue236
 t51 := Tryz.underlying222
 a51 := Tryz.isAgg222
 z51 := Tryz.sizeOf222
 v51 := Tryz.zeroValue222
 t119 := Tryz.underlying243
 a119 := Tryz.isAgg243
 z119 := Tryz.sizeOf243
 t141 := Tryz.underlying230
 a141 := Tryz.isAgg230
 z141 := Tryz.sizeOf230
 v141 := Tryz.zeroValue230
 t193 := Tryz.underlying232
 a193 := Tryz.isAgg232
 z193 := Tryz.sizeOf232
 v193 := Tryz.zeroValue232
 t194 := Tryz.underlying233
 a194 := Tryz.isAgg233
 z194 := Tryz.sizeOf233
 v194 := Tryz.zeroValue233
 t196 := Tryz.underlying235
 a196 := Tryz.isAgg235
 z196 := Tryz.sizeOf235
 v196 := Tryz.zeroValue235
 t198 := Tryz.underlying238
 a198 := Tryz.isAgg238
 z198 := Tryz.sizeOf238
 v198 := Tryz.zeroValue238
 t201 := Tryz.underlying241
 a201 := Tryz.isAgg241
 z201 := Tryz.sizeOf241
 v201 := Tryz.zeroValue241
 t226 := Tryz.underlying250
 a226 := Tryz.isAgg250
 z226 := Tryz.sizeOf250
 v226 := Tryz.zeroValue250
 t227 := Tryz.underlying251
 a227 := Tryz.isAgg251
 z227 := Tryz.sizeOf251
 v227 := Tryz.zeroValue251
 g7 := by kernel_rfl
 g8 := by kernel_rfl }
open Go.RowKit Go.Lib in
theorem Tryz.unicode_IsLetter (c : Nat) (w : World) (hc : c < 256) (htab : Lib.TabIs Tryz.prog w "unicode.properties" .u8 Lib.propertiesTab) :
  Calls Tryz.prog 182 #[.int .i32 c] w fun e w' => e = .returned (.bool (Lib.isLetterL c)) ∧ w' = w := Any.unicode_IsLetter Tryz.lays200 (by kernel_rfl) c w hc htab
open Go.RowKit Go.Lib in
open Go.RowKit Go.Lib in
open Go.RowKit Go.Lib in
open Go.RowKit Go.Lib in
open Go.RowKit Go.Lib in
open Go.RowKit Go.Lib in
open Go.RowKit Go.Lib in
def Tryz.lays185_ren : Go.Shelf.Ren := ⟨fun | 185 => 156 | 187 => 167 | 115 => 168 | 253 => 169 | 224 => 170 | 254 => 171 | 255 => 176 | 291 => 177 | n => n, fun | 37 => 28 | 3 => 3 | 4 => 4 | 0 => 0 | 5 => 5 | 46 => 155 | 9 => 9 | 146 => 223 | 51 => 222 | n => n, fun | 1 => 3 | n => n⟩
theorem Tryz.lays185 : Go.Proofs.Lays.n185 Tryz.prog Tryz.lays185_ren := {
 mixed := by kernel_rfl
 f115 := Tryz.func168.trans (congrArg some (by kernel_rfl))
 f185 := Tryz.func156.trans (congrArg some (by kernel_rfl))
 f187 := Tryz.func167.trans (congrArg some (by kernel_rfl))
 f224 := Tryz.func170.trans (congrArg some (by kernel_rfl))
 f253 := Tryz.func169.trans (congrArg some (by kernel_rfl))
 f254 := Tryz.func171.trans (congrArg some (by kernel_rfl))
 f255 := Tryz.func176.trans (congrArg some (by kernel_rfl))
 f291 := Tryz.func177.trans (congrArg some (by kernel_rfl))
 t0 := Tryz.underlying0
 a0 := Tryz.isAgg0
 z0 := Tryz.sizeOf0
 v0 := Tryz.zeroValue0
 t3 := Tryz.underlying3
 a3 := Tryz.isAgg3
 z3 := Tryz.sizeOf3
 v3 := Tryz.zeroValue3
 t4 := Tryz.underlying4
 a4 := Tryz.isAgg4
 z4 := Tryz.sizeOf4
 v4 := Tryz.zeroValue4
 t5 := Tryz.underlying5
 a5 := Tryz.isAgg5
 z5 := Tryz.sizeOf5
 v5 := Tryz.zeroValue5
 t9 := Tryz.underlying9
 a9 := Tryz.isAgg9
 z9 := Tryz.sizeOf9
 v9 := Tryz.zeroValue9
 t37 := Tryz.underlying28
 a37 := Tryz.isAgg28
 z37 := Tryz.sizeOf28
 v37 := Tryz.zeroValue28
 t46 := Tryz.underlying155
 a46 := Tryz.isAgg155
 z46 := Tryz.sizeOf155
 v46 := Tryz.zeroValue155
 t51 := Tryz.underlying222
 a51 := Tryz.isAgg222
 z51 := Tryz.sizeOf222
 v51 := Tryz.zeroValue222
 t146 := Tryz.underlying223
 a146 := Tryz.isAgg223
 z146 := Tryz.sizeOf223
 v146 := Tryz.zeroValue223
 g1 := by kernel_rfl }
open Go.RowKit Go.Lib in
/-- bytes.Index at a separator of one byte: "Index returns the index of the first instance of sep in s, or -1 if sep is not present in s.": 'Lib.indexByte' of s's bytes and that byte; the world is as it was. 'xs': s's elements; 'cv': the separator's one byte. (LAID: no walk: one application.) -/
theorem Tryz.bytes_Index_one (b o n c b2 o2 d : Nat) (xs : List Int) (cv : Int) (w : World) (hx : xs.length = n) (hc : ∀ i, i < n → w.cell? ⟨b, o + i, none⟩ = some (.int .u8 (xs.getD i 0))) (hc2 : w.cell? ⟨b2, o2, none⟩ = some (.int .u8 cv)) :
  Calls Tryz.prog 156 #[.slice (some ⟨b, o, none⟩) n c, .slice (some ⟨b2, o2, none⟩) 1 d] w fun e w' => e = .returned (.int .i64 (Lib.indexByte (Lib.bytesOf xs) cv.toNat.toUInt8)) ∧ w' = w := Any.bytes_Index_one Tryz.lays185 b o n c b2 o2 d xs cv w hx hc hc2
open Go.RowKit Go.Lib in
open Go.RowKit Go.Lib in
open Go.RowKit Go.Lib in
open Go.RowKit Go.Lib in
open Go.RowKit Go.Lib in
open Go.RowKit Go.Lib in
open Go.Proofs Go.RowKit Go.Lib in
open Go.Proofs Go.RowKit Go.Lib in
open Go.RowKit Go.Lib in
open Go.RowKit Go.Lib in
open Go.RowKit Go.Lib in
open Go.Proofs Go.RowKit Go.Lib in
open Go.Proofs Go.RowKit Go.Lib in
open Go.Proofs Go.RowKit Go.Lib in
def Tryz.laysSlT4_ren : Go.Shelf.Ren := ⟨fun | 4 => 122 | 5 => 156 | 6 => 167 | 7 => 168 | 8 => 169 | 9 => 170 | 10 => 171 | 11 => 176 | 12 => 177 | n => n, fun | 22 => 28 | 4 => 4 | 3 => 3 | 0 => 0 | 5 => 5 | 29 => 155 | 9 => 9 | 31 => 223 | 30 => 222 | n => n, fun | 0 => 3 | n => n⟩
theorem Tryz.laysSlT4 : Go.Proofs.SlLaysT.n4 Tryz.prog Tryz.laysSlT4_ren := {
 mixed := by kernel_rfl
 f4 := Tryz.func122.trans (congrArg some (by kernel_rfl))
 f5 := Tryz.func156.trans (congrArg some (by kernel_rfl))
 f6 := Tryz.func167.trans (congrArg some (by kernel_rfl))
 f7 := Tryz.func168.trans (congrArg some (by kernel_rfl))
 f8 := Tryz.func169.trans (congrArg some (by kernel_rfl))
 f9 := Tryz.func170.trans (congrArg some (by kernel_rfl))
 f10 := Tryz.func171.trans (congrArg some (by kernel_rfl))
 f11 := Tryz.func176.trans (congrArg some (by kernel_rfl))
 f12 := Tryz.func177.trans (congrArg some (by kernel_rfl))
 t0 := Tryz.underlying0
 a0 := Tryz.isAgg0
 z0 := Tryz.sizeOf0
 v0 := Tryz.zeroValue0
 t3 := Tryz.underlying3
 a3 := Tryz.isAgg3
 z3 := Tryz.sizeOf3
 v3 := Tryz.zeroValue3
 t4 := Tryz.underlying4
 a4 := Tryz.isAgg4
 z4 := Tryz.sizeOf4
 v4 := Tryz.zeroValue4
 t5 := Tryz.underlying5
 a5 := Tryz.isAgg5
 z5 := Tryz.sizeOf5
 v5 := Tryz.zeroValue5
 t9 := Tryz.underlying9
 a9 := Tryz.isAgg9
 z9 := Tryz.sizeOf9
 v9 := Tryz.zeroValue9
 t22 := Tryz.underlying28
 a22 := Tryz.isAgg28
 z22 := Tryz.sizeOf28
 v22 := Tryz.zeroValue28
 t29 := Tryz.underlying155
 a29 := Tryz.isAgg155
 z29 := Tryz.sizeOf155
 v29 := Tryz.zeroValue155
 t30 := Tryz.underlying222
 a30 := Tryz.isAgg222
 z30 := Tryz.sizeOf222
 v30 := Tryz.zeroValue222
 t31 := Tryz.underlying223
 a31 := Tryz.isAgg223
 z31 := Tryz.sizeOf223
 v31 := Tryz.zeroValue223
 g0 := by kernel_rfl }
/-- THE WALK, bytes.Index's answer a premise: whatever the two slices' addresses. (LAID: no walk: one application.) -/
theorem Tryz.bytes_Cut_of (p1 p2 : Option Addr) (n c1 k c2 : Nat) (i : Int) (w : World) (hcap : n ≤ c1) (hlo : -1 ≤ i) (hroom : 0 ≤ i → i + k ≤ n) (hn : n ≤ 4611686018427387904) (hidx : Calls Tryz.prog 156 #[.slice p1 n c1, .slice p2 k c2] w fun e w' => e = .returned (.int .i64 i) ∧ ∃ q, w' = w.drewN q) :
  Calls Tryz.prog 122 #[.slice p1 n c1, .slice p2 k c2] w fun e w' => e = .returned (Lib.cutV p1 n c1 k i) ∧ ∃ q, w' = w.drewN q := Any.bytes_Cut_of Tryz.laysSlT4 p1 p2 n c1 k c2 i w hcap hlo hroom hn hidx
end Go.Proofs
