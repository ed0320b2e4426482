/-
  DERIVED: THE SHELF's CONTRACTS AT THIS DUMP, IN PLAIN WORDS (tools/lay-plain.mjs out of 'TryzShelf.lean', which tools/lay-shelf.mjs wrote): THE SAME DECLARATIONS UNDER THE SAME NAMES: 'import', 'namespace', 'open', 'def', 'theorem' AND NOTHING ELSE: no command of the shelf's: FOR A HAND-IN. Each laying: the table of numbers ('.._ren') and one theorem, a field a fact of the dump's own or the kernel's comparison; each contract: ONE APPLICATION.
-/
import Derived.Shelf.Strconv.Atoi
import Derived.Shelf.Strconv.Itoa0
import Derived.Shelf.Strconv.Itoa1
import Derived.Shelf.LaysM
import Derived.Shelf.Strconv.Itoa2
import Derived.Shelf.Strconv.Itoa3
import Derived.Shelf.Strconv.AtoiErrFast
import Derived.Shelf.Strconv.ParseIntEmpty
import Derived.Shelf.Strconv.AtoiFail
import Derived.Shelf.Strconv.Clone
import Derived.Shelf.Strconv.SyntaxError
import Derived.Shelf.LaysC
import Derived.Shelf.Strconv.ToError
import Derived.Shelf.Strconv.Lower
import Derived.Shelf.Strconv.ParseUint10
import Derived.Shelf.Strconv.ParseUint10Empty
import Derived.Shelf.Strconv.ParseUint10Any
import Derived.Shelf.Strconv.ParseInt10
import Derived.Shelf.Strconv.AtoiLong
import Derived.Shelf.Strconv.AtoiInnerAll
import Derived.Shelf.Strconv.RangeError
import Derived.Shelf.Strconv.ToErrorRange
import Derived.Shelf.Strconv.AtoiAll
import Derived.Shelf.Strconv.ErrVarAll
import Derived.Shelf.Unicode.Latin
import Derived.Shelf.Unicode.Props
import Derived.Shelf.Unicode.Is16White
import Derived.Shelf.Unicode.IsSpaceAny
import Derived.Shelf.Unicode.Is16Any
import Derived.Shelf.Unicode.Is32Any
import Derived.Shelf.Unicode.ExclAny
import Derived.Shelf.Unicode.PredsAny
import Derived.Test.YtmnbalbiehlkpaaGreatDoorProg
namespace Go.Proofs
open Go.Shelf
def Tryz.lays171_ren : Go.Shelf.Ren := ⟨fun | 171 => 269 | 243 => 278 | 246 => 282 | 283 => 285 | 284 => 286 | 285 => 287 | 286 => 288 | 129 => 138 | 317 => 289 | 318 => 290 | 319 => 291 | 320 => 292 | 337 => 293 | 338 => 294 | n => n, fun | 3 => 3 | 9 => 9 | 2 => 2 | 4 => 4 | 171 => 347 | 0 => 0 | 53 => 33 | 37 => 26 | 5 => 5 | 173 => 349 | 212 => 352 | 51 => 223 | 20 => 20 | 213 => 353 | 46 => 159 | 232 => 354 | 233 => 355 | n => n, fun | 17 => 8 | 18 => 9 | 19 => 10 | n => n⟩
theorem Tryz.lays171 : Go.Proofs.Lays.n171 Tryz.prog Tryz.lays171_ren := {
 mixed := by kernel_rfl
 f129 := Tryz.func138.trans (congrArg some (by kernel_rfl))
 f171 := Tryz.func269.trans (congrArg some (by kernel_rfl))
 f243 := Tryz.func278.trans (congrArg some (by kernel_rfl))
 f246 := Tryz.func282.trans (congrArg some (by kernel_rfl))
 f283 := Tryz.func285.trans (congrArg some (by kernel_rfl))
 f284 := Tryz.func286.trans (congrArg some (by kernel_rfl))
 f285 := Tryz.func287.trans (congrArg some (by kernel_rfl))
 f286 := Tryz.func288.trans (congrArg some (by kernel_rfl))
 f317 := Tryz.func289.trans (congrArg some (by kernel_rfl))
 f318 := Tryz.func290.trans (congrArg some (by kernel_rfl))
 f319 := Tryz.func291.trans (congrArg some (by kernel_rfl))
 f320 := Tryz.func292.trans (congrArg some (by kernel_rfl))
 f337 := Tryz.func293.trans (congrArg some (by kernel_rfl))
 f338 := Tryz.func294.trans (congrArg some (by kernel_rfl))
 t0 := Tryz.underlying0
 a0 := Tryz.isAgg0
 z0 := Tryz.sizeOf0
 v0 := Tryz.zeroValue0
 t2 := Tryz.underlying2
 a2 := Tryz.isAgg2
 z2 := Tryz.sizeOf2
 v2 := Tryz.zeroValue2
 t3 := Tryz.underlying3
 a3 := Tryz.isAgg3
 z3 := Tryz.sizeOf3
 v3 := Tryz.zeroValue3
 t4 := Tryz.underlying4
 a4 := Tryz.isAgg4
 z4 := Tryz.sizeOf4
 v4 := Tryz.zeroValue4
 t5 := Tryz.underlying5
 a5 := Tryz.isAgg5
 z5 := Tryz.sizeOf5
 v5 := Tryz.zeroValue5
 t9 := Tryz.underlying9
 a9 := Tryz.isAgg9
 z9 := Tryz.sizeOf9
 v9 := Tryz.zeroValue9
 t20 := Tryz.underlying20
 a20 := Tryz.isAgg20
 z20 := Tryz.sizeOf20
 v20 := Tryz.zeroValue20
 t37 := Tryz.underlying26
 a37 := Tryz.isAgg26
 z37 := Tryz.sizeOf26
 v37 := Tryz.zeroValue26
 t46 := Tryz.underlying159
 a46 := Tryz.isAgg159
 z46 := Tryz.sizeOf159
 v46 := Tryz.zeroValue159
 t51 := Tryz.underlying223
 a51 := Tryz.isAgg223
 z51 := Tryz.sizeOf223
 v51 := Tryz.zeroValue223
 t53 := Tryz.underlying33
 a53 := Tryz.isAgg33
 z53 := Tryz.sizeOf33
 v53 := Tryz.zeroValue33
 t171 := Tryz.underlying347
 a171 := Tryz.isAgg347
 z171 := Tryz.sizeOf347
 v171 := Tryz.zeroValue347
 t173 := Tryz.underlying349
 a173 := Tryz.isAgg349
 z173 := Tryz.sizeOf349
 v173 := Tryz.zeroValue349
 t212 := Tryz.underlying352
 a212 := Tryz.isAgg352
 z212 := Tryz.sizeOf352
 v212 := Tryz.zeroValue352
 t213 := Tryz.underlying353
 a213 := Tryz.isAgg353
 z213 := Tryz.sizeOf353
 t232 := Tryz.underlying354
 a232 := Tryz.isAgg354
 z232 := Tryz.sizeOf354
 v232 := Tryz.zeroValue354
 t233 := Tryz.underlying355
 a233 := Tryz.isAgg355
 z233 := Tryz.sizeOf355
 v233 := Tryz.zeroValue355
 g17 := by kernel_rfl
 g18 := by kernel_rfl
 g19 := by kernel_rfl }
open Go.RowKit Go.Sort Go.Lib in
/-- THE ROAD WITHOUT THE TABLE: 0 <= i < 100: NO PREMISE ON THE WORLD, AND THE WORLD IS AS IT WAS: a row that keeps its argument in that range need list no table ('laid = []'). (LAID: no walk: one application.) -/
theorem Tryz.strconv_Itoa_small (i : Nat) (hi : i < 100) (w : World) :
  Calls Tryz.prog 269 #[.int .i64 i] w fun e w' => e = .returned (.string ⟨(Lib.decDigits i).toArray⟩) ∧ w' = w := Any.strconv_Itoa_small Tryz.lays171 i hi w
def Tryz.laysC172_ren : Go.Shelf.Ren := ⟨fun | 172 => 253 | 244 => 267 | 245 => 268 | 247 => 273 | 279 => 274 | 280 => 275 | 281 => 276 | 282 => 277 | 287 => 279 | 316 => 280 | 171 => 269 | 205 => 281 | 321 => 283 | 322 => 284 | 243 => 278 | 246 => 282 | 283 => 285 | 284 => 286 | 285 => 287 | 286 => 288 | 129 => 138 | 317 => 289 | 318 => 290 | 319 => 291 | 320 => 292 | 337 => 293 | 338 => 294 | n => n, fun | 9 => 9 | 3 => 3 | 75 => 307 | 76 => 308 | 4 => 4 | 5 => 5 | 167 => 327 | 37 => 26 | 0 => 0 | 85 => 328 | 2 => 2 | 168 => 330 | 53 => 33 | 175 => 335 | 46 => 159 | 210 => 339 | 127 => 343 | 145 => 346 | 143 => 344 | 21 => 21 | 171 => 347 | 173 => 349 | 212 => 352 | 51 => 223 | 20 => 20 | 213 => 353 | 232 => 354 | 233 => 355 | 80 => 356 | n => n, fun | 15 => 6 | 16 => 7 | 17 => 8 | 18 => 9 | 19 => 10 | n => n⟩
theorem Tryz.laysC172 : Go.Proofs.LaysC.n172 Tryz.prog Tryz.laysC172_ren := {
 mixed := by kernel_rfl
 f129 := Tryz.func138.trans (congrArg some (by kernel_rfl))
 f171 := Tryz.func269.trans (congrArg some (by kernel_rfl))
 f172 := Tryz.func253.trans (congrArg some (by kernel_rfl))
 f205 := Tryz.func281.trans (congrArg some (by kernel_rfl))
 f243 := Tryz.func278.trans (congrArg some (by kernel_rfl))
 f244 := Tryz.func267.trans (congrArg some (by kernel_rfl))
 f245 := Tryz.func268.trans (congrArg some (by kernel_rfl))
 f246 := Tryz.func282.trans (congrArg some (by kernel_rfl))
 f247 := Tryz.func273.trans (congrArg some (by kernel_rfl))
 f279 := Tryz.func274.trans (congrArg some (by kernel_rfl))
 f280 := Tryz.func275.trans (congrArg some (by kernel_rfl))
 f281 := Tryz.func276.trans (congrArg some (by kernel_rfl))
 f282 := Tryz.func277.trans (congrArg some (by kernel_rfl))
 f283 := Tryz.func285.trans (congrArg some (by kernel_rfl))
 f284 := Tryz.func286.trans (congrArg some (by kernel_rfl))
 f285 := Tryz.func287.trans (congrArg some (by kernel_rfl))
 f286 := Tryz.func288.trans (congrArg some (by kernel_rfl))
 f287 := Tryz.func279.trans (congrArg some (by kernel_rfl))
 f316 := Tryz.func280.trans (congrArg some (by kernel_rfl))
 f317 := Tryz.func289.trans (congrArg some (by kernel_rfl))
 f318 := Tryz.func290.trans (congrArg some (by kernel_rfl))
 f319 := Tryz.func291.trans (congrArg some (by kernel_rfl))
 f320 := Tryz.func292.trans (congrArg some (by kernel_rfl))
 f321 := Tryz.func283.trans (congrArg some (by kernel_rfl))
 f322 := Tryz.func284.trans (congrArg some (by kernel_rfl))
 f337 := Tryz.func293.trans (congrArg some (by kernel_rfl))
 f338 := Tryz.func294.trans (congrArg some (by kernel_rfl))
 t0 := Tryz.underlying0
 a0 := Tryz.isAgg0
 z0 := Tryz.sizeOf0
 v0 := Tryz.zeroValue0
 t2 := Tryz.underlying2
 a2 := Tryz.isAgg2
 z2 := Tryz.sizeOf2
 v2 := Tryz.zeroValue2
 t3 := Tryz.underlying3
 a3 := Tryz.isAgg3
 z3 := Tryz.sizeOf3
 v3 := Tryz.zeroValue3
 t4 := Tryz.underlying4
 a4 := Tryz.isAgg4
 z4 := Tryz.sizeOf4
 v4 := Tryz.zeroValue4
 t5 := Tryz.underlying5
 a5 := Tryz.isAgg5
 z5 := Tryz.sizeOf5
 v5 := Tryz.zeroValue5
 t9 := Tryz.underlying9
 a9 := Tryz.isAgg9
 z9 := Tryz.sizeOf9
 v9 := Tryz.zeroValue9
 t20 := Tryz.underlying20
 a20 := Tryz.isAgg20
 z20 := Tryz.sizeOf20
 v20 := Tryz.zeroValue20
 t21 := Tryz.underlying21
 a21 := Tryz.isAgg21
 z21 := Tryz.sizeOf21
 v21 := Tryz.zeroValue21
 t37 := Tryz.underlying26
 a37 := Tryz.isAgg26
 z37 := Tryz.sizeOf26
 v37 := Tryz.zeroValue26
 t46 := Tryz.underlying159
 a46 := Tryz.isAgg159
 z46 := Tryz.sizeOf159
 v46 := Tryz.zeroValue159
 t51 := Tryz.underlying223
 a51 := Tryz.isAgg223
 z51 := Tryz.sizeOf223
 v51 := Tryz.zeroValue223
 t53 := Tryz.underlying33
 a53 := Tryz.isAgg33
 z53 := Tryz.sizeOf33
 v53 := Tryz.zeroValue33
 t75 := Tryz.underlying307
 a75 := Tryz.isAgg307
 z75 := Tryz.sizeOf307
 v75 := Tryz.zeroValue307
 t76 := Tryz.underlying308
 a76 := Tryz.isAgg308
 z76 := Tryz.sizeOf308
 v76 := Tryz.zeroValue308
 t85 := Tryz.underlying328
 a85 := Tryz.isAgg328
 z85 := Tryz.sizeOf328
 v85 := Tryz.zeroValue328
 t127 := Tryz.underlying343
 a127 := Tryz.isAgg343
 z127 := Tryz.sizeOf343
 v127 := Tryz.zeroValue343
 t143 := Tryz.underlying344
 a143 := Tryz.isAgg344
 z143 := Tryz.sizeOf344
 v143 := Tryz.zeroValue344
 t145 := Tryz.underlying346
 a145 := Tryz.isAgg346
 z145 := Tryz.sizeOf346
 v145 := Tryz.zeroValue346
 t167 := Tryz.underlying327
 a167 := Tryz.isAgg327
 z167 := Tryz.sizeOf327
 v167 := Tryz.zeroValue327
 t168 := Tryz.underlying330
 a168 := Tryz.isAgg330
 z168 := Tryz.sizeOf330
 v168 := Tryz.zeroValue330
 t171 := Tryz.underlying347
 a171 := Tryz.isAgg347
 z171 := Tryz.sizeOf347
 v171 := Tryz.zeroValue347
 t173 := Tryz.underlying349
 a173 := Tryz.isAgg349
 z173 := Tryz.sizeOf349
 v173 := Tryz.zeroValue349
 t175 := Tryz.underlying335
 a175 := Tryz.isAgg335
 z175 := Tryz.sizeOf335
 v175 := Tryz.zeroValue335
 t210 := Tryz.underlying339
 a210 := Tryz.isAgg339
 z210 := Tryz.sizeOf339
 v210 := Tryz.zeroValue339
 t212 := Tryz.underlying352
 a212 := Tryz.isAgg352
 z212 := Tryz.sizeOf352
 v212 := Tryz.zeroValue352
 t213 := Tryz.underlying353
 a213 := Tryz.isAgg353
 z213 := Tryz.sizeOf353
 t232 := Tryz.underlying354
 a232 := Tryz.isAgg354
 z232 := Tryz.sizeOf354
 v232 := Tryz.zeroValue354
 t233 := Tryz.underlying355
 a233 := Tryz.isAgg355
 z233 := Tryz.sizeOf355
 v233 := Tryz.zeroValue355
 g15 := by kernel_rfl
 g16 := by kernel_rfl
 g17 := by kernel_rfl
 g18 := by kernel_rfl
 g19 := by kernel_rfl
 t80 := Tryz.underlying356
 a80 := Tryz.isAgg356
 z80 := Tryz.sizeOf356
 v80 := Tryz.zeroValue356
 i0 := by kernel_rfl
 i2 := by kernel_rfl
 i3 := by kernel_rfl
 i4 := by kernel_rfl
 i5 := by kernel_rfl
 i9 := by kernel_rfl
 i20 := by kernel_rfl
 i21 := by kernel_rfl
 i37 := by kernel_rfl
 i46 := by kernel_rfl
 i51 := by kernel_rfl
 i53 := by kernel_rfl
 i75 := by kernel_rfl
 i76 := by kernel_rfl
 i80 := by kernel_rfl
 i85 := by kernel_rfl
 i127 := by kernel_rfl
 i143 := by kernel_rfl
 i145 := by kernel_rfl
 i167 := by kernel_rfl
 i168 := by kernel_rfl
 i171 := by kernel_rfl
 i173 := by kernel_rfl
 i175 := by kernel_rfl
 i210 := by kernel_rfl
 i212 := by kernel_rfl
 i232 := by kernel_rfl
 i233 := by kernel_rfl
 m15 := by kernel_rfl
 m16 := by kernel_rfl
 m17 := by kernel_rfl
 m18 := by kernel_rfl
 m19 := by kernel_rfl
 c0 := by kernel_rfl
 c2 := by kernel_rfl
 c3 := by kernel_rfl
 c4 := by kernel_rfl
 c5 := by kernel_rfl
 c9 := by kernel_rfl
 c20 := by kernel_rfl
 c21 := by kernel_rfl
 c37 := by kernel_rfl
 c46 := by kernel_rfl
 c51 := by kernel_rfl
 c53 := by kernel_rfl
 c75 := by kernel_rfl
 c76 := by kernel_rfl
 c80 := by kernel_rfl
 c85 := by kernel_rfl
 c127 := by kernel_rfl
 c143 := by kernel_rfl
 c145 := by kernel_rfl
 c167 := by kernel_rfl
 c168 := by kernel_rfl
 c171 := by kernel_rfl
 c173 := by kernel_rfl
 c175 := by kernel_rfl
 c210 := by kernel_rfl
 c212 := by kernel_rfl
 c213 := by kernel_rfl
 c232 := by kernel_rfl
 c233 := by kernel_rfl }
open Go.RowKit in
/-- strconv.Atoi, AT EVERY STRING THAT SPELLS AN int ('Lib.atoiAll .. = .ok v'; of whatever length: leading zeros count): v, AND NO ERROR. The world: as it was, or with the one new row that '[]byte(..)' lays. (LAID: no walk: one application.) -/
theorem Tryz.strconv_Atoi_ok (s : ByteArray) (hmax : s.size ≤ 9223372036854775806) (v : Int) (h : Lib.atoiAll s.data.toList = .ok v) (w : World) :
  Calls Tryz.prog 253 #[.string s] w fun e w' => e = .returned (.tuple #[.int .i64 v, .nilIface]) ∧ (w' = w ∨ ∃ t, w' = Lib.bytesWorld w 5 t) := Any.strconv_Atoi_ok Tryz.laysC172 s hmax v h w
open Go.RowKit in
/-- strconv.Atoi, AT EVERY STRING THAT IS NO DECIMAL NUMERAL ('.syntax'): 0, AND AN ERROR THAT IS NOT nil: a *NumError in a new block N: {Func: "Atoi", Num: s's bytes, Err: what the variable ErrSyntax holds}. Of what was there nothing has turned. (LAID: no walk: one application.) -/
theorem Tryz.strconv_Atoi_syntax (s : ByteArray) (hlim : s.size ≤ 281474976710656) (h : Lib.atoiAll s.data.toList = Lib.atoiAll []) (ev : Value) (w : World) (hv : w.cell? ⟨6, 0, none⟩ = some ev) (hev : ev = .nilIface ∨ ∃ te pe, ev = .iface te pe) :
  Calls Tryz.prog 253 #[.string s] w fun e w' => ∃ N, e = .returned (.tuple #[.int .i64 (0), .iface 330 (.pointer (some ⟨N, 0, none⟩))]) ∧ w.heap.size ≤ N ∧ w'.heap[N]? = some (.cells #[.string ⟨#[65, 116, 111, 105]⟩, .string s, ev] 339 (0, 0)) ∧ Below w.heap.size w w' := Any.strconv_Atoi_syntax Tryz.laysC172 s hlim h ev w hv hev
open Go.RowKit in
/-- strconv.Atoi, AT EVERY NUMERAL THAT NO int HOLDS ('.range'): THE GREATEST OR THE LEAST int, BY THE SIGN ('Lib.atoiSat'), AND AN ERROR THAT IS NOT nil: a *NumError in a new block N: {Func: "Atoi", Num: s's bytes, Err: what the variable ErrRange holds}. Of what was there nothing has turned. (LAID: no walk: one application.) -/
theorem Tryz.strconv_Atoi_range (s : ByteArray) (hlim : s.size ≤ 281474976710656) (h : Lib.atoiAll s.data.toList = .range) (ev : Value) (w : World) (hv : w.cell? ⟨7, 0, none⟩ = some ev) (hev : ev = .nilIface ∨ ∃ te pe, ev = .iface te pe) :
  Calls Tryz.prog 253 #[.string s] w fun e w' => ∃ N, e = .returned (.tuple #[.int .i64 (Lib.atoiSat s.data.toList), .iface 330 (.pointer (some ⟨N, 0, none⟩))]) ∧ w.heap.size ≤ N ∧ w'.heap[N]? = some (.cells #[.string ⟨#[65, 116, 111, 105]⟩, .string s, ev] 339 (0, 0)) ∧ Below w.heap.size w w' := Any.strconv_Atoi_range Tryz.laysC172 s hlim h ev w hv hev
def Tryz.lays198_ren : Go.Shelf.Ren := ⟨fun | 198 => 214 | 261 => 255 | 311 => 270 | 312 => 271 | n => n, fun | 21 => 21 | 4 => 4 | 141 => 311 | 0 => 0 | 196 => 317 | 193 => 314 | 3 => 3 | 51 => 223 | 198 => 320 | 49 => 318 | 194 => 315 | 201 => 323 | 226 => 333 | 46 => 159 | 227 => 334 | n => n, fun | 5 => 3 | n => n⟩
theorem Tryz.lays198 : Go.Proofs.Lays.n198 Tryz.prog Tryz.lays198_ren := {
 mixed := by kernel_rfl
 f198 := Tryz.func214.trans (congrArg some (by kernel_rfl))
 f261 := Tryz.func255.trans (congrArg some (by kernel_rfl))
 f311 := Tryz.func270.trans (congrArg some (by kernel_rfl))
 f312 := Tryz.func271.trans (congrArg some (by kernel_rfl))
 t0 := Tryz.underlying0
 a0 := Tryz.isAgg0
 z0 := Tryz.sizeOf0
 v0 := Tryz.zeroValue0
 t3 := Tryz.underlying3
 a3 := Tryz.isAgg3
 z3 := Tryz.sizeOf3
 v3 := Tryz.zeroValue3
 t4 := Tryz.underlying4
 a4 := Tryz.isAgg4
 z4 := Tryz.sizeOf4
 v4 := Tryz.zeroValue4
 t21 := Tryz.underlying21
 a21 := Tryz.isAgg21
 z21 := Tryz.sizeOf21
 v21 := Tryz.zeroValue21
 t46 := Tryz.underlying159
 a46 := Tryz.isAgg159
 z46 := Tryz.sizeOf159
 v46 := Tryz.zeroValue159
 t49 := Tryz.underlying318
 a49 := Tryz.isAgg318
 z49 := Tryz.sizeOf318
 v49 := Tryz.zeroValue318
 t51 := Tryz.underlying223
 a51 := Tryz.isAgg223
 z51 := Tryz.sizeOf223
 v51 := Tryz.zeroValue223
 t141 := Tryz.underlying311
 a141 := Tryz.isAgg311
 z141 := Tryz.sizeOf311
 v141 := Tryz.zeroValue311
 t193 := Tryz.underlying314
 a193 := Tryz.isAgg314
 z193 := Tryz.sizeOf314
 v193 := Tryz.zeroValue314
 t194 := Tryz.underlying315
 a194 := Tryz.isAgg315
 z194 := Tryz.sizeOf315
 v194 := Tryz.zeroValue315
 t196 := Tryz.underlying317
 a196 := Tryz.isAgg317
 z196 := Tryz.sizeOf317
 v196 := Tryz.zeroValue317
 t198 := Tryz.underlying320
 a198 := Tryz.isAgg320
 z198 := Tryz.sizeOf320
 v198 := Tryz.zeroValue320
 t201 := Tryz.underlying323
 a201 := Tryz.isAgg323
 z201 := Tryz.sizeOf323
 v201 := Tryz.zeroValue323
 t226 := Tryz.underlying333
 a226 := Tryz.isAgg333
 z226 := Tryz.sizeOf333
 v226 := Tryz.zeroValue333
 t227 := Tryz.underlying334
 a227 := Tryz.isAgg334
 z227 := Tryz.sizeOf334
 v227 := Tryz.zeroValue334
 g5 := by kernel_rfl }
open Go.RowKit Go.Lib in
theorem Tryz.unicode_IsDigit (r : Int) (w : World) (h : r ≤ 255) :
  Calls Tryz.prog 214 #[.int .i32 r] w fun e w' => e = .returned (.bool (Lib.isDigitL r)) ∧ w' = w := Any.unicode_IsDigit Tryz.lays198 r w h
def Tryz.lays200_ren : Go.Shelf.Ren := ⟨fun | 200 => 266 | 261 => 255 | 311 => 270 | 312 => 271 | n => n, fun | 21 => 21 | 4 => 4 | 51 => 223 | 5 => 5 | 119 => 326 | 0 => 0 | 141 => 311 | 196 => 317 | 193 => 314 | 3 => 3 | 198 => 320 | 49 => 318 | 194 => 315 | 201 => 323 | 226 => 333 | 46 => 159 | 227 => 334 | n => n, fun | 7 => 4 | 8 => 5 | n => n⟩
theorem Tryz.lays200 : Go.Proofs.Lays.n200 Tryz.prog Tryz.lays200_ren := {
 mixed := by kernel_rfl
 f200 := Tryz.func266.trans (congrArg some (by kernel_rfl))
 f261 := Tryz.func255.trans (congrArg some (by kernel_rfl))
 f311 := Tryz.func270.trans (congrArg some (by kernel_rfl))
 f312 := Tryz.func271.trans (congrArg some (by kernel_rfl))
 t0 := Tryz.underlying0
 a0 := Tryz.isAgg0
 z0 := Tryz.sizeOf0
 v0 := Tryz.zeroValue0
 t3 := Tryz.underlying3
 a3 := Tryz.isAgg3
 z3 := Tryz.sizeOf3
 v3 := Tryz.zeroValue3
 t4 := Tryz.underlying4
 a4 := Tryz.isAgg4
 z4 := Tryz.sizeOf4
 v4 := Tryz.zeroValue4
 t5 := Tryz.underlying5
 a5 := Tryz.isAgg5
 z5 := Tryz.sizeOf5
 v5 := Tryz.zeroValue5
 t21 := Tryz.underlying21
 a21 := Tryz.isAgg21
 z21 := Tryz.sizeOf21
 v21 := Tryz.zeroValue21
 t46 := Tryz.underlying159
 a46 := Tryz.isAgg159
 z46 := Tryz.sizeOf159
 v46 := Tryz.zeroValue159
 t49 := Tryz.underlying318
 a49 := Tryz.isAgg318
 z49 := Tryz.sizeOf318
 v49 := Tryz.zeroValue318
 t51 := Tryz.underlying223
 a51 := Tryz.isAgg223
 z51 := Tryz.sizeOf223
 v51 := Tryz.zeroValue223
 t119 := Tryz.underlying326
 a119 := Tryz.isAgg326
 z119 := Tryz.sizeOf326
 t141 := Tryz.underlying311
 a141 := Tryz.isAgg311
 z141 := Tryz.sizeOf311
 v141 := Tryz.zeroValue311
 t193 := Tryz.underlying314
 a193 := Tryz.isAgg314
 z193 := Tryz.sizeOf314
 v193 := Tryz.zeroValue314
 t194 := Tryz.underlying315
 a194 := Tryz.isAgg315
 z194 := Tryz.sizeOf315
 v194 := Tryz.zeroValue315
 t196 := Tryz.underlying317
 a196 := Tryz.isAgg317
 z196 := Tryz.sizeOf317
 v196 := Tryz.zeroValue317
 t198 := Tryz.underlying320
 a198 := Tryz.isAgg320
 z198 := Tryz.sizeOf320
 v198 := Tryz.zeroValue320
 t201 := Tryz.underlying323
 a201 := Tryz.isAgg323
 z201 := Tryz.sizeOf323
 v201 := Tryz.zeroValue323
 t226 := Tryz.underlying333
 a226 := Tryz.isAgg333
 z226 := Tryz.sizeOf333
 v226 := Tryz.zeroValue333
 t227 := Tryz.underlying334
 a227 := Tryz.isAgg334
 z227 := Tryz.sizeOf334
 v227 := Tryz.zeroValue334
 g7 := by kernel_rfl
 g8 := by kernel_rfl }
open Go.RowKit Go.Lib in
theorem Tryz.unicode_IsLetter (c : Nat) (w : World) (hc : c < 256) (htab : Lib.TabIs Tryz.prog w "unicode.properties" .u8 Lib.propertiesTab) :
  Calls Tryz.prog 266 #[.int .i32 c] w fun e w' => e = .returned (.bool (Lib.isLetterL c)) ∧ w' = w := Any.unicode_IsLetter Tryz.lays200 (by kernel_rfl) c w hc htab
end Go.Proofs
