/-
  DERIVED: THE SHELF's CONTRACTS AT THIS DUMP, IN PLAIN WORDS (tools/lay-plain.mjs out of 'TryzShelf.lean', which tools/lay-shelf.mjs wrote): THE SAME DECLARATIONS UNDER THE SAME NAMES: 'import', 'namespace', 'open', 'def', 'theorem' AND NOTHING ELSE: no command of the shelf's: FOR A HAND-IN. Each laying: the table of numbers ('.._ren') and one theorem, a field a fact of the dump's own or the kernel's comparison; each contract: ONE APPLICATION.
-/
import Derived.Shelf.Strings.Builder1
import Derived.Shelf.Strings.Builder2
import Derived.Shelf.Strings.OnBuilder
import Derived.Shelf.Strings.Trim
import Derived.Shelf.Small.Utf8
import Derived.Shelf.Small.Bits
import Derived.Shelf.Small.Strs
import Derived.Shelf.Small.Wraps
import Derived.Shelf.Strings.BuilderF
import Derived.Shelf.Strings.BuilderK
import Derived.Shelf.Strings.Builder2Cap
import Derived.Shelf.Strconv.Itoa0
import Derived.Shelf.Strconv.Itoa1
import Derived.Shelf.LaysM
import Derived.Shelf.Strconv.Itoa2
import Derived.Shelf.Strconv.Itoa3
import Derived.Shelf.Strconv.Itoa4
import Derived.Shelf.Strconv.ParseIntEmpty
import Derived.Shelf.Strconv.Clone
import Derived.Shelf.Strconv.SyntaxError
import Derived.Shelf.LaysC
import Derived.Shelf.Strconv.ToError
import Derived.Shelf.Strconv.Lower
import Derived.Shelf.Strconv.ParseUint10
import Derived.Shelf.Strconv.ParseUint10Empty
import Derived.Shelf.Strconv.ParseUint10Any
import Derived.Shelf.Strconv.ParseInt10
import Derived.Shelf.Strconv.RangeError
import Derived.Shelf.Strconv.ToErrorRange
import Derived.Shelf.Strconv.ParseUintEmpty
import Derived.Shelf.Strconv.ParseUint10b64
import Derived.Shelf.Strconv.ParseUint10b32
import Derived.Shelf.Strconv.ParseUint10b16
import Derived.Shelf.Strconv.ParseUint10b8
import Derived.Shelf.Strconv.ParseUint10At
import Derived.Shelf.Strconv.ParseInt10At64
import Derived.Shelf.Strconv.ParseInt10At32
import Derived.Shelf.Strconv.ParseInt10At16
import Derived.Shelf.Strconv.ParseInt10At8
import Derived.Shelf.Strconv.ParseInt10All
import Derived.Shelf.Strconv.ParseIntPublic10
import Derived.Shelf.Strconv.ErrVarParseInt
import Derived.Ground.MpProg
import Derived.Shelf.Pu.ParseUintPublic10
import Derived.Shelf.Pu.ErrVarParseUint
import Derived.Shelf.Strings.Search1
import Derived.Shelf.Strings.Search2
import Derived.Shelf.Strings.Search3
import Derived.Shelf.Strings.Shaped
import Derived.Shelf.Strings.Prefix
import Derived.Shelf.Unicode.Decode
import Derived.Shelf.Strings.Runes
import Derived.Shelf.Strings.AsciiSet
import Derived.Shelf.Bits.Mul64
import Derived.Shelf.Strings.Repeat
import Derived.Shelf.Unicode.DecodeSlow
import Derived.Shelf.Unicode.DecodeAny
import Derived.Shelf.Unicode.DecodeLast
import Derived.Shelf.Strings.BuilderCap
import Derived.Ground.Names2Prog
import Derived.Shelf.Slices.SearchI
import Derived.Test.YtbbgmlnfpnomiaaGreatDoorProg
namespace Go.Proofs
open Go.Shelf
def Tryz.lays169_ren : Go.Shelf.Ren := ⟨fun | 169 => 211 | n => n, fun | 70 => 311 | 9 => 9 | 0 => 0 | 72 => 313 | 37 => 149 | 127 => 371 | 3 => 3 | 5 => 5 | n => n, fun | n => n⟩
theorem Tryz.lays169 : Go.Proofs.Lays.n169 Tryz.prog Tryz.lays169_ren := {
  mixed := by kernel_rfl
  f169 := Tryz.func211.trans (congrArg some (by kernel_rfl))
  t0 := Tryz.underlying0
  a0 := Tryz.isAgg0
  z0 := Tryz.sizeOf0
  v0 := Tryz.zeroValue0
  t3 := Tryz.underlying3
  a3 := Tryz.isAgg3
  z3 := Tryz.sizeOf3
  v3 := Tryz.zeroValue3
  t9 := Tryz.underlying9
  a9 := Tryz.isAgg9
  z9 := Tryz.sizeOf9
  v9 := Tryz.zeroValue9
  t37 := Tryz.underlying149
  a37 := Tryz.isAgg149
  z37 := Tryz.sizeOf149
  v37 := Tryz.zeroValue149
  t70 := Tryz.underlying311
  a70 := Tryz.isAgg311
  z70 := Tryz.sizeOf311
  v70 := Tryz.zeroValue311
  t72 := Tryz.underlying313
  a72 := Tryz.isAgg313
  z72 := Tryz.sizeOf313
  v72 := Tryz.zeroValue313
  t127 := Tryz.underlying371
  a127 := Tryz.isAgg371
  z127 := Tryz.sizeOf371
  v127 := Tryz.zeroValue371 }
theorem Tryz.Builder_Extra_169 : Builder.Extra Tryz.prog Tryz.lays169_ren := {
  sizeBuilder := by kernel_rfl
  liesBuilder := by kernel_rfl
  t5 := Tryz.underlying5
  a5 := Tryz.isAgg5
  z5 := Tryz.sizeOf5
  v5 := Tryz.zeroValue5
  infoByte := by kernel_rfl
  cellsByte := by kernel_rfl
  sizeByte := by kernel_rfl
  neB5 := by decide }
open Go.RowKit in
/-- (*strings.Builder).String: "String returns the accumulated string.": WHATEVER THE BUILDER HOLDS. (LAID: no walk: one application.) -/
theorem Tryz.Builder_String_any (B b : Nat) (l : List UInt8) (w : World) (h : Lib.IsBuilder 313 5 B b (Lib.byteCells l) w) (hBw : B ≤ w.heap.size) :
    Calls Tryz.prog 211 #[.pointer (some ⟨b, 0, none⟩)] w fun e w' => e = .returned (.string ⟨l.toArray⟩) ∧ Below B w w' := Any.Builder_String_any Tryz.lays169 Tryz.Builder_Extra_169 B b l w h hBw
def Tryz.lays156_ren : Go.Shelf.Ren := ⟨fun | 156 => 213 | 165 => 267 | 166 => 268 | 169 => 211 | 240 => 265 | 241 => 300 | 276 => 295 | 277 => 321 | n => n, fun | 31 => 219 | 9 => 9 | 3 => 3 | 4 => 4 | 0 => 0 | 20 => 20 | 72 => 313 | 76 => 373 | 70 => 311 | 37 => 149 | 75 => 303 | 127 => 371 | 164 => 405 | 5 => 5 | 80 => 315 | n => n, fun | n => n⟩
theorem Tryz.lays156 : Go.Proofs.Lays.n156 Tryz.prog Tryz.lays156_ren := {
  mixed := by kernel_rfl
  f156 := Tryz.func213.trans (congrArg some (by kernel_rfl))
  f165 := Tryz.func267.trans (congrArg some (by kernel_rfl))
  f166 := Tryz.func268.trans (congrArg some (by kernel_rfl))
  f169 := Tryz.func211.trans (congrArg some (by kernel_rfl))
  f240 := Tryz.func265.trans (congrArg some (by kernel_rfl))
  f241 := Tryz.func300.trans (congrArg some (by kernel_rfl))
  f276 := Tryz.func295.trans (congrArg some (by kernel_rfl))
  f277 := Tryz.func321.trans (congrArg some (by kernel_rfl))
  t0 := Tryz.underlying0
  a0 := Tryz.isAgg0
  z0 := Tryz.sizeOf0
  v0 := Tryz.zeroValue0
  t3 := Tryz.underlying3
  a3 := Tryz.isAgg3
  z3 := Tryz.sizeOf3
  v3 := Tryz.zeroValue3
  t4 := Tryz.underlying4
  a4 := Tryz.isAgg4
  z4 := Tryz.sizeOf4
  v4 := Tryz.zeroValue4
  t9 := Tryz.underlying9
  a9 := Tryz.isAgg9
  z9 := Tryz.sizeOf9
  v9 := Tryz.zeroValue9
  t20 := Tryz.underlying20
  a20 := Tryz.isAgg20
  z20 := Tryz.sizeOf20
  v20 := Tryz.zeroValue20
  t31 := Tryz.underlying219
  a31 := Tryz.isAgg219
  z31 := Tryz.sizeOf219
  v31 := Tryz.zeroValue219
  t37 := Tryz.underlying149
  a37 := Tryz.isAgg149
  z37 := Tryz.sizeOf149
  v37 := Tryz.zeroValue149
  t70 := Tryz.underlying311
  a70 := Tryz.isAgg311
  z70 := Tryz.sizeOf311
  v70 := Tryz.zeroValue311
  t72 := Tryz.underlying313
  a72 := Tryz.isAgg313
  z72 := Tryz.sizeOf313
  v72 := Tryz.zeroValue313
  t75 := Tryz.underlying303
  a75 := Tryz.isAgg303
  z75 := Tryz.sizeOf303
  v75 := Tryz.zeroValue303
  t76 := Tryz.underlying373
  a76 := Tryz.isAgg373
  z76 := Tryz.sizeOf373
  v76 := Tryz.zeroValue373
  t127 := Tryz.underlying371
  a127 := Tryz.isAgg371
  z127 := Tryz.sizeOf371
  v127 := Tryz.zeroValue371
  t164 := Tryz.underlying405
  a164 := Tryz.isAgg405
  z164 := Tryz.sizeOf405
  v164 := Tryz.zeroValue405 }
theorem Tryz.Builder_Extra_156 : Builder.Extra Tryz.prog Tryz.lays156_ren := {
  sizeBuilder := by kernel_rfl
  liesBuilder := by kernel_rfl
  t5 := Tryz.underlying5
  a5 := Tryz.isAgg5
  z5 := Tryz.sizeOf5
  v5 := Tryz.zeroValue5
  infoByte := by kernel_rfl
  cellsByte := by kernel_rfl
  sizeByte := by kernel_rfl
  neB5 := by decide }
open Go.RowKit in
/-- No element: the empty string; the world is as it was. (Whatever the slice's address and capacity: a nil slice too.) (LAID: no walk: one application.) -/
theorem Tryz.strings_Join_none (a : Option Addr) (c : Nat) (sep : ByteArray) (w : World) :
    Calls Tryz.prog 213 #[.slice a 0 c, .string sep] w fun e w' => e = .returned (.string ⟨#[]⟩) ∧ w' = w := Any.strings_Join_none Tryz.lays156 Tryz.Builder_Extra_156 a c sep w
open Go.RowKit in
/-- strings.Join: "Join concatenates the elements of its first argument to create a single string. The separator string sep is placed between elements in the resulting string.": HOWEVER MANY ELEMENTS. Below the heap's end the world is as it was. (LAID: no walk: one application.) -/
theorem Tryz.strings_Join (bk o c : Nat) (xs : List ByteArray) (sep : ByteArray) (w : World) (hcells : ∀ (j : Nat) x, xs[j]? = some x → w.cell? ⟨bk, o + j, none⟩ = some (.string x)) (hbk : bk < w.heap.size) (hN : xs.length ≤ 140737488355328) (hcap : xs.length ≤ c) (hlen : (Lib.join (xs.map (·.data.toList)) sep.data.toList).length ≤ 140737488355328) :
    Calls Tryz.prog 213 #[.slice (some ⟨bk, o, none⟩) xs.length c, .string sep] w fun e w' => e = .returned (.string ⟨(Lib.join (xs.map (·.data.toList)) sep.data.toList).toArray⟩) ∧ Below w.heap.size w w' := Any.strings_Join Tryz.lays156 Tryz.Builder_Extra_156 bk o c xs sep w hcells hbk hN hcap hlen
def Tryz.lays160_ren : Go.Shelf.Ren := ⟨fun | 160 => 205 | 232 => 254 | 231 => 253 | 227 => 255 | 234 => 257 | 233 => 256 | 236 => 259 | 235 => 258 | 228 => 285 | 271 => 288 | 151 => 287 | 197 => 286 | 120 => 311 | 152 => 310 | 260 => 309 | 137 => 332 | 119 => 333 | 224 => 334 | 225 => 335 | 217 => 337 | 266 => 347 | n => n, fun | 9 => 9 | 4 => 4 | 3 => 3 | 5 => 5 | 117 => 361 | 116 => 360 | 0 => 0 | 124 => 364 | 21 => 21 | 105 => 386 | 46 => 188 | 119 => 442 | 139 => 445 | 138 => 444 | n => n, fun | 3 => 3 | 4 => 4 | n => n⟩
theorem Tryz.lays160 : Go.Proofs.Lays.n160 Tryz.prog Tryz.lays160_ren := {
  mixed := by kernel_rfl
  f119 := Tryz.func333.trans (congrArg some (by kernel_rfl))
  f120 := Tryz.func311.trans (congrArg some (by kernel_rfl))
  f137 := Tryz.func332.trans (congrArg some (by kernel_rfl))
  f151 := Tryz.func287.trans (congrArg some (by kernel_rfl))
  f152 := Tryz.func310.trans (congrArg some (by kernel_rfl))
  f160 := Tryz.func205.trans (congrArg some (by kernel_rfl))
  f197 := Tryz.func286.trans (congrArg some (by kernel_rfl))
  f217 := Tryz.func337.trans (congrArg some (by kernel_rfl))
  f224 := Tryz.func334.trans (congrArg some (by kernel_rfl))
  f225 := Tryz.func335.trans (congrArg some (by kernel_rfl))
  f227 := Tryz.func255.trans (congrArg some (by kernel_rfl))
  f228 := Tryz.func285.trans (congrArg some (by kernel_rfl))
  f231 := Tryz.func253.trans (congrArg some (by kernel_rfl))
  f232 := Tryz.func254.trans (congrArg some (by kernel_rfl))
  f233 := Tryz.func256.trans (congrArg some (by kernel_rfl))
  f234 := Tryz.func257.trans (congrArg some (by kernel_rfl))
  f235 := Tryz.func258.trans (congrArg some (by kernel_rfl))
  f236 := Tryz.func259.trans (congrArg some (by kernel_rfl))
  f260 := Tryz.func309.trans (congrArg some (by kernel_rfl))
  f266 := Tryz.func347.trans (congrArg some (by kernel_rfl))
  f271 := Tryz.func288.trans (congrArg some (by kernel_rfl))
  t0 := Tryz.underlying0
  a0 := Tryz.isAgg0
  z0 := Tryz.sizeOf0
  v0 := Tryz.zeroValue0
  t3 := Tryz.underlying3
  a3 := Tryz.isAgg3
  z3 := Tryz.sizeOf3
  v3 := Tryz.zeroValue3
  t4 := Tryz.underlying4
  a4 := Tryz.isAgg4
  z4 := Tryz.sizeOf4
  v4 := Tryz.zeroValue4
  t5 := Tryz.underlying5
  a5 := Tryz.isAgg5
  z5 := Tryz.sizeOf5
  v5 := Tryz.zeroValue5
  t9 := Tryz.underlying9
  a9 := Tryz.isAgg9
  z9 := Tryz.sizeOf9
  v9 := Tryz.zeroValue9
  t21 := Tryz.underlying21
  a21 := Tryz.isAgg21
  z21 := Tryz.sizeOf21
  v21 := Tryz.zeroValue21
  t46 := Tryz.underlying188
  a46 := Tryz.isAgg188
  z46 := Tryz.sizeOf188
  v46 := Tryz.zeroValue188
  t105 := Tryz.underlying386
  a105 := Tryz.isAgg386
  z105 := Tryz.sizeOf386
  v105 := Tryz.zeroValue386
  t116 := Tryz.underlying360
  a116 := Tryz.isAgg360
  z116 := Tryz.sizeOf360
  t117 := Tryz.underlying361
  a117 := Tryz.isAgg361
  z117 := Tryz.sizeOf361
  v117 := Tryz.zeroValue361
  t119 := Tryz.underlying442
  a119 := Tryz.isAgg442
  z119 := Tryz.sizeOf442
  t124 := Tryz.underlying364
  a124 := Tryz.isAgg364
  z124 := Tryz.sizeOf364
  v124 := Tryz.zeroValue364
  t138 := Tryz.underlying444
  a138 := Tryz.isAgg444
  z138 := Tryz.sizeOf444
  v138 := Tryz.zeroValue444
  t139 := Tryz.underlying445
  a139 := Tryz.isAgg445
  z139 := Tryz.sizeOf445
  v139 := Tryz.zeroValue445
  g3 := by kernel_rfl
  g4 := by kernel_rfl }
def Tryz.laysM173_ren : Go.Shelf.Ren := ⟨fun | 173 => 212 | 246 => 266 | 283 => 296 | 284 => 297 | 285 => 298 | 286 => 299 | 129 => 317 | 317 => 316 | 318 => 318 | 319 => 319 | 320 => 320 | 337 => 339 | 338 => 340 | n => n, fun | 2 => 2 | 3 => 3 | 9 => 9 | 4 => 4 | 171 => 408 | 0 => 0 | 53 => 22 | 37 => 149 | 5 => 5 | 173 => 411 | 212 => 429 | 51 => 413 | 20 => 20 | 213 => 430 | 46 => 188 | 232 => 457 | 233 => 458 | n => n, fun | 17 => 2 | 18 => 6 | 19 => 7 | n => n⟩
theorem Tryz.laysM173 : Go.Proofs.LaysM.n173 Tryz.prog Tryz.laysM173_ren := {
  mixed := by kernel_rfl
  f129 := Tryz.func317.trans (congrArg some (by kernel_rfl))
  f173 := Tryz.func212.trans (congrArg some (by kernel_rfl))
  f246 := Tryz.func266.trans (congrArg some (by kernel_rfl))
  f283 := Tryz.func296.trans (congrArg some (by kernel_rfl))
  f284 := Tryz.func297.trans (congrArg some (by kernel_rfl))
  f285 := Tryz.func298.trans (congrArg some (by kernel_rfl))
  f286 := Tryz.func299.trans (congrArg some (by kernel_rfl))
  f317 := Tryz.func316.trans (congrArg some (by kernel_rfl))
  f318 := Tryz.func318.trans (congrArg some (by kernel_rfl))
  f319 := Tryz.func319.trans (congrArg some (by kernel_rfl))
  f320 := Tryz.func320.trans (congrArg some (by kernel_rfl))
  f337 := Tryz.func339.trans (congrArg some (by kernel_rfl))
  f338 := Tryz.func340.trans (congrArg some (by kernel_rfl))
  t0 := Tryz.underlying0
  a0 := Tryz.isAgg0
  z0 := Tryz.sizeOf0
  v0 := Tryz.zeroValue0
  t2 := Tryz.underlying2
  a2 := Tryz.isAgg2
  z2 := Tryz.sizeOf2
  v2 := Tryz.zeroValue2
  t3 := Tryz.underlying3
  a3 := Tryz.isAgg3
  z3 := Tryz.sizeOf3
  v3 := Tryz.zeroValue3
  t4 := Tryz.underlying4
  a4 := Tryz.isAgg4
  z4 := Tryz.sizeOf4
  v4 := Tryz.zeroValue4
  t5 := Tryz.underlying5
  a5 := Tryz.isAgg5
  z5 := Tryz.sizeOf5
  v5 := Tryz.zeroValue5
  t9 := Tryz.underlying9
  a9 := Tryz.isAgg9
  z9 := Tryz.sizeOf9
  v9 := Tryz.zeroValue9
  t20 := Tryz.underlying20
  a20 := Tryz.isAgg20
  z20 := Tryz.sizeOf20
  v20 := Tryz.zeroValue20
  t37 := Tryz.underlying149
  a37 := Tryz.isAgg149
  z37 := Tryz.sizeOf149
  v37 := Tryz.zeroValue149
  t46 := Tryz.underlying188
  a46 := Tryz.isAgg188
  z46 := Tryz.sizeOf188
  v46 := Tryz.zeroValue188
  t51 := Tryz.underlying413
  a51 := Tryz.isAgg413
  z51 := Tryz.sizeOf413
  v51 := Tryz.zeroValue413
  t53 := Tryz.underlying22
  a53 := Tryz.isAgg22
  z53 := Tryz.sizeOf22
  v53 := Tryz.zeroValue22
  t171 := Tryz.underlying408
  a171 := Tryz.isAgg408
  z171 := Tryz.sizeOf408
  v171 := Tryz.zeroValue408
  t173 := Tryz.underlying411
  a173 := Tryz.isAgg411
  z173 := Tryz.sizeOf411
  v173 := Tryz.zeroValue411
  t212 := Tryz.underlying429
  a212 := Tryz.isAgg429
  z212 := Tryz.sizeOf429
  v212 := Tryz.zeroValue429
  t213 := Tryz.underlying430
  a213 := Tryz.isAgg430
  z213 := Tryz.sizeOf430
  t232 := Tryz.underlying457
  a232 := Tryz.isAgg457
  z232 := Tryz.sizeOf457
  v232 := Tryz.zeroValue457
  t233 := Tryz.underlying458
  a233 := Tryz.isAgg458
  z233 := Tryz.sizeOf458
  v233 := Tryz.zeroValue458
  g17 := by kernel_rfl
  g18 := by kernel_rfl
  g19 := by kernel_rfl
  i0 := by kernel_rfl
  i2 := by kernel_rfl
  i3 := by kernel_rfl
  i4 := by kernel_rfl
  i5 := by kernel_rfl
  i9 := by kernel_rfl
  i20 := by kernel_rfl
  i37 := by kernel_rfl
  i46 := by kernel_rfl
  i51 := by kernel_rfl
  i53 := by kernel_rfl
  i171 := by kernel_rfl
  i173 := by kernel_rfl
  i212 := by kernel_rfl
  i232 := by kernel_rfl
  i233 := by kernel_rfl
  m17 := by kernel_rfl
  m18 := by kernel_rfl
  m19 := by kernel_rfl }
open Go.RowKit Go.Sort Go.Lib in
/-- strconv.FormatInt: "FormatInt returns the string representation of i in the given base": AT BASE 10: i's decimal numeral, for every int64. (LAID: no walk: one application.) -/
theorem Tryz.strconv_FormatInt_10 (n : Int) (h0 : -9223372036854775808 ≤ n) (h1 : n ≤ 9223372036854775807) (w : World) (htab : Lib.TabIs Tryz.prog w "internal/strconv.uint64pow10" .u64 Lib.pow10Tab) :
    Calls Tryz.prog 212 #[.int .i64 n, .int .i64 10] w fun e w' => e = .returned (.string ⟨(Lib.itoa n).toArray⟩) ∧ ∃ k os, w' = grow (w.drewN k) os := Any.strconv_FormatInt_10 Tryz.laysM173 n h0 h1 w htab
def Tryz.laysC245_ren : Go.Shelf.Ren := ⟨fun | 245 => 261 | 279 => 289 | 280 => 290 | 281 => 291 | 282 => 292 | 316 => 312 | 171 => 314 | 205 => 313 | 243 => 336 | 246 => 266 | 283 => 296 | 284 => 297 | 285 => 298 | 286 => 299 | 129 => 317 | 317 => 316 | 318 => 318 | 319 => 319 | 320 => 320 | 337 => 339 | 338 => 340 | n => n, fun | 9 => 9 | 3 => 3 | 75 => 303 | 167 => 389 | 4 => 4 | 168 => 390 | 210 => 426 | 37 => 149 | 0 => 0 | 127 => 371 | 145 => 450 | 143 => 448 | 2 => 2 | 171 => 408 | 53 => 22 | 5 => 5 | 173 => 411 | 212 => 429 | 51 => 413 | 20 => 20 | 213 => 430 | 46 => 188 | 232 => 457 | 233 => 458 | 80 => 315 | n => n, fun | 15 => 1 | 16 => 0 | 17 => 2 | 18 => 6 | 19 => 7 | n => n⟩
theorem Tryz.laysC245 : Go.Proofs.LaysC.n245 Tryz.prog Tryz.laysC245_ren := {
  mixed := by kernel_rfl
  f129 := Tryz.func317.trans (congrArg some (by kernel_rfl))
  f171 := Tryz.func314.trans (congrArg some (by kernel_rfl))
  f205 := Tryz.func313.trans (congrArg some (by kernel_rfl))
  f243 := Tryz.func336.trans (congrArg some (by kernel_rfl))
  f245 := Tryz.func261.trans (congrArg some (by kernel_rfl))
  f246 := Tryz.func266.trans (congrArg some (by kernel_rfl))
  f279 := Tryz.func289.trans (congrArg some (by kernel_rfl))
  f280 := Tryz.func290.trans (congrArg some (by kernel_rfl))
  f281 := Tryz.func291.trans (congrArg some (by kernel_rfl))
  f282 := Tryz.func292.trans (congrArg some (by kernel_rfl))
  f283 := Tryz.func296.trans (congrArg some (by kernel_rfl))
  f284 := Tryz.func297.trans (congrArg some (by kernel_rfl))
  f285 := Tryz.func298.trans (congrArg some (by kernel_rfl))
  f286 := Tryz.func299.trans (congrArg some (by kernel_rfl))
  f316 := Tryz.func312.trans (congrArg some (by kernel_rfl))
  f317 := Tryz.func316.trans (congrArg some (by kernel_rfl))
  f318 := Tryz.func318.trans (congrArg some (by kernel_rfl))
  f319 := Tryz.func319.trans (congrArg some (by kernel_rfl))
  f320 := Tryz.func320.trans (congrArg some (by kernel_rfl))
  f337 := Tryz.func339.trans (congrArg some (by kernel_rfl))
  f338 := Tryz.func340.trans (congrArg some (by kernel_rfl))
  t0 := Tryz.underlying0
  a0 := Tryz.isAgg0
  z0 := Tryz.sizeOf0
  v0 := Tryz.zeroValue0
  t2 := Tryz.underlying2
  a2 := Tryz.isAgg2
  z2 := Tryz.sizeOf2
  v2 := Tryz.zeroValue2
  t3 := Tryz.underlying3
  a3 := Tryz.isAgg3
  z3 := Tryz.sizeOf3
  v3 := Tryz.zeroValue3
  t4 := Tryz.underlying4
  a4 := Tryz.isAgg4
  z4 := Tryz.sizeOf4
  v4 := Tryz.zeroValue4
  t5 := Tryz.underlying5
  a5 := Tryz.isAgg5
  z5 := Tryz.sizeOf5
  v5 := Tryz.zeroValue5
  t9 := Tryz.underlying9
  a9 := Tryz.isAgg9
  z9 := Tryz.sizeOf9
  v9 := Tryz.zeroValue9
  t20 := Tryz.underlying20
  a20 := Tryz.isAgg20
  z20 := Tryz.sizeOf20
  v20 := Tryz.zeroValue20
  t37 := Tryz.underlying149
  a37 := Tryz.isAgg149
  z37 := Tryz.sizeOf149
  v37 := Tryz.zeroValue149
  t46 := Tryz.underlying188
  a46 := Tryz.isAgg188
  z46 := Tryz.sizeOf188
  v46 := Tryz.zeroValue188
  t51 := Tryz.underlying413
  a51 := Tryz.isAgg413
  z51 := Tryz.sizeOf413
  v51 := Tryz.zeroValue413
  t53 := Tryz.underlying22
  a53 := Tryz.isAgg22
  z53 := Tryz.sizeOf22
  v53 := Tryz.zeroValue22
  t75 := Tryz.underlying303
  a75 := Tryz.isAgg303
  z75 := Tryz.sizeOf303
  v75 := Tryz.zeroValue303
  t127 := Tryz.underlying371
  a127 := Tryz.isAgg371
  z127 := Tryz.sizeOf371
  v127 := Tryz.zeroValue371
  t143 := Tryz.underlying448
  a143 := Tryz.isAgg448
  z143 := Tryz.sizeOf448
  v143 := Tryz.zeroValue448
  t145 := Tryz.underlying450
  a145 := Tryz.isAgg450
  z145 := Tryz.sizeOf450
  v145 := Tryz.zeroValue450
  t167 := Tryz.underlying389
  a167 := Tryz.isAgg389
  z167 := Tryz.sizeOf389
  v167 := Tryz.zeroValue389
  t168 := Tryz.underlying390
  a168 := Tryz.isAgg390
  z168 := Tryz.sizeOf390
  v168 := Tryz.zeroValue390
  t171 := Tryz.underlying408
  a171 := Tryz.isAgg408
  z171 := Tryz.sizeOf408
  v171 := Tryz.zeroValue408
  t173 := Tryz.underlying411
  a173 := Tryz.isAgg411
  z173 := Tryz.sizeOf411
  v173 := Tryz.zeroValue411
  t210 := Tryz.underlying426
  a210 := Tryz.isAgg426
  z210 := Tryz.sizeOf426
  v210 := Tryz.zeroValue426
  t212 := Tryz.underlying429
  a212 := Tryz.isAgg429
  z212 := Tryz.sizeOf429
  v212 := Tryz.zeroValue429
  t213 := Tryz.underlying430
  a213 := Tryz.isAgg430
  z213 := Tryz.sizeOf430
  t232 := Tryz.underlying457
  a232 := Tryz.isAgg457
  z232 := Tryz.sizeOf457
  v232 := Tryz.zeroValue457
  t233 := Tryz.underlying458
  a233 := Tryz.isAgg458
  z233 := Tryz.sizeOf458
  v233 := Tryz.zeroValue458
  g15 := by kernel_rfl
  g16 := by kernel_rfl
  g17 := by kernel_rfl
  g18 := by kernel_rfl
  g19 := by kernel_rfl
  t80 := Tryz.underlying315
  a80 := Tryz.isAgg315
  z80 := Tryz.sizeOf315
  v80 := Tryz.zeroValue315
  i0 := by kernel_rfl
  i2 := by kernel_rfl
  i3 := by kernel_rfl
  i4 := by kernel_rfl
  i5 := by kernel_rfl
  i9 := by kernel_rfl
  i20 := by kernel_rfl
  i37 := by kernel_rfl
  i46 := by kernel_rfl
  i51 := by kernel_rfl
  i53 := by kernel_rfl
  i75 := by kernel_rfl
  i80 := by kernel_rfl
  i127 := by kernel_rfl
  i143 := by kernel_rfl
  i145 := by kernel_rfl
  i167 := by kernel_rfl
  i168 := by kernel_rfl
  i171 := by kernel_rfl
  i173 := by kernel_rfl
  i210 := by kernel_rfl
  i212 := by kernel_rfl
  i232 := by kernel_rfl
  i233 := by kernel_rfl
  m15 := by kernel_rfl
  m16 := by kernel_rfl
  m17 := by kernel_rfl
  m18 := by kernel_rfl
  m19 := by kernel_rfl
  c0 := by kernel_rfl
  c2 := by kernel_rfl
  c3 := by kernel_rfl
  c4 := by kernel_rfl
  c5 := by kernel_rfl
  c9 := by kernel_rfl
  c20 := by kernel_rfl
  c37 := by kernel_rfl
  c46 := by kernel_rfl
  c51 := by kernel_rfl
  c53 := by kernel_rfl
  c75 := by kernel_rfl
  c80 := by kernel_rfl
  c127 := by kernel_rfl
  c143 := by kernel_rfl
  c145 := by kernel_rfl
  c167 := by kernel_rfl
  c168 := by kernel_rfl
  c171 := by kernel_rfl
  c173 := by kernel_rfl
  c210 := by kernel_rfl
  c212 := by kernel_rfl
  c213 := by kernel_rfl
  c232 := by kernel_rfl
  c233 := by kernel_rfl }
open Go.RowKit in
/-- strconv.toError, at the inner package's ErrSyntax: 'syntaxError(fn, s)' as an error: A *NumError IN A NEW BLOCK. (LAID: no walk: one application.) -/
theorem Tryz.strconv_toError_syntax (fn s : ByteArray) (base bits : Int) (ev : Value) (w : World) (hlim : s.size ≤ 281474976710656) (hv : w.cell? ⟨1, 0, none⟩ = some ev) (hev : ev = .nilIface ∨ ∃ te pe, ev = .iface te pe) :
    Calls Tryz.prog 261 #[.string fn, .string s, .int .i64 base, .int .i64 bits, .iface 389 (.int .i64 2)] w fun e w' => ∃ N, e = .returned (.iface 390 (.pointer (some ⟨N, 0, none⟩))) ∧ w.heap.size ≤ N ∧ w'.heap[N]? = some (.cells #[.string fn, .string s, ev] 426 (0, 0)) ∧ Below w.heap.size w w' := Any.strconv_toError_syntax Tryz.laysC245 fn s base bits ev w hlim hv hev
open Go.RowKit in
/-- strconv.toError, at the inner package's ErrRange: 'rangeError(fn, s)' as an error: A *NumError IN A NEW BLOCK. (LAID: no walk: one application.) -/
theorem Tryz.strconv_toError_range (fn s : ByteArray) (base bits : Int) (ev : Value) (w : World) (hlim : s.size ≤ 281474976710656) (hv : w.cell? ⟨0, 0, none⟩ = some ev) (hev : ev = .nilIface ∨ ∃ te pe, ev = .iface te pe) :
    Calls Tryz.prog 261 #[.string fn, .string s, .int .i64 base, .int .i64 bits, .iface 389 (.int .i64 1)] w fun e w' => ∃ N, e = .returned (.iface 390 (.pointer (some ⟨N, 0, none⟩))) ∧ w.heap.size ≤ N ∧ w'.heap[N]? = some (.cells #[.string fn, .string s, ev] 426 (0, 0)) ∧ Below w.heap.size w w' := Any.strconv_toError_range Tryz.laysC245 fn s base bits ev w hlim hv hev
def Tryz.laysC174_ren : Go.Shelf.Ren := ⟨fun | 174 => 206 | 247 => 260 | 245 => 261 | 287 => 276 | 279 => 289 | 280 => 290 | 281 => 291 | 282 => 292 | 321 => 304 | 322 => 305 | 316 => 312 | 171 => 314 | 205 => 313 | 243 => 336 | 246 => 266 | 283 => 296 | 284 => 297 | 285 => 298 | 286 => 299 | 129 => 317 | 317 => 316 | 318 => 318 | 319 => 319 | 320 => 320 | 337 => 339 | 338 => 340 | n => n, fun | 9 => 9 | 3 => 3 | 2 => 2 | 75 => 303 | 85 => 304 | 4 => 4 | 167 => 389 | 5 => 5 | 53 => 22 | 175 => 323 | 46 => 188 | 168 => 390 | 37 => 149 | 0 => 0 | 210 => 426 | 21 => 21 | 127 => 371 | 145 => 450 | 143 => 448 | 171 => 408 | 173 => 411 | 212 => 429 | 51 => 413 | 20 => 20 | 213 => 430 | 232 => 457 | 233 => 458 | 80 => 315 | n => n, fun | 15 => 1 | 16 => 0 | 17 => 2 | 18 => 6 | 19 => 7 | n => n⟩
theorem Tryz.laysC174 : Go.Proofs.LaysC.n174 Tryz.prog Tryz.laysC174_ren := {
  mixed := by kernel_rfl
  f129 := Tryz.func317.trans (congrArg some (by kernel_rfl))
  f171 := Tryz.func314.trans (congrArg some (by kernel_rfl))
  f174 := Tryz.func206.trans (congrArg some (by kernel_rfl))
  f205 := Tryz.func313.trans (congrArg some (by kernel_rfl))
  f243 := Tryz.func336.trans (congrArg some (by kernel_rfl))
  f245 := Tryz.func261.trans (congrArg some (by kernel_rfl))
  f246 := Tryz.func266.trans (congrArg some (by kernel_rfl))
  f247 := Tryz.func260.trans (congrArg some (by kernel_rfl))
  f279 := Tryz.func289.trans (congrArg some (by kernel_rfl))
  f280 := Tryz.func290.trans (congrArg some (by kernel_rfl))
  f281 := Tryz.func291.trans (congrArg some (by kernel_rfl))
  f282 := Tryz.func292.trans (congrArg some (by kernel_rfl))
  f283 := Tryz.func296.trans (congrArg some (by kernel_rfl))
  f284 := Tryz.func297.trans (congrArg some (by kernel_rfl))
  f285 := Tryz.func298.trans (congrArg some (by kernel_rfl))
  f286 := Tryz.func299.trans (congrArg some (by kernel_rfl))
  f287 := Tryz.func276.trans (congrArg some (by kernel_rfl))
  f316 := Tryz.func312.trans (congrArg some (by kernel_rfl))
  f317 := Tryz.func316.trans (congrArg some (by kernel_rfl))
  f318 := Tryz.func318.trans (congrArg some (by kernel_rfl))
  f319 := Tryz.func319.trans (congrArg some (by kernel_rfl))
  f320 := Tryz.func320.trans (congrArg some (by kernel_rfl))
  f321 := Tryz.func304.trans (congrArg some (by kernel_rfl))
  f322 := Tryz.func305.trans (congrArg some (by kernel_rfl))
  f337 := Tryz.func339.trans (congrArg some (by kernel_rfl))
  f338 := Tryz.func340.trans (congrArg some (by kernel_rfl))
  t0 := Tryz.underlying0
  a0 := Tryz.isAgg0
  z0 := Tryz.sizeOf0
  v0 := Tryz.zeroValue0
  t2 := Tryz.underlying2
  a2 := Tryz.isAgg2
  z2 := Tryz.sizeOf2
  v2 := Tryz.zeroValue2
  t3 := Tryz.underlying3
  a3 := Tryz.isAgg3
  z3 := Tryz.sizeOf3
  v3 := Tryz.zeroValue3
  t4 := Tryz.underlying4
  a4 := Tryz.isAgg4
  z4 := Tryz.sizeOf4
  v4 := Tryz.zeroValue4
  t5 := Tryz.underlying5
  a5 := Tryz.isAgg5
  z5 := Tryz.sizeOf5
  v5 := Tryz.zeroValue5
  t9 := Tryz.underlying9
  a9 := Tryz.isAgg9
  z9 := Tryz.sizeOf9
  v9 := Tryz.zeroValue9
  t20 := Tryz.underlying20
  a20 := Tryz.isAgg20
  z20 := Tryz.sizeOf20
  v20 := Tryz.zeroValue20
  t21 := Tryz.underlying21
  a21 := Tryz.isAgg21
  z21 := Tryz.sizeOf21
  v21 := Tryz.zeroValue21
  t37 := Tryz.underlying149
  a37 := Tryz.isAgg149
  z37 := Tryz.sizeOf149
  v37 := Tryz.zeroValue149
  t46 := Tryz.underlying188
  a46 := Tryz.isAgg188
  z46 := Tryz.sizeOf188
  v46 := Tryz.zeroValue188
  t51 := Tryz.underlying413
  a51 := Tryz.isAgg413
  z51 := Tryz.sizeOf413
  v51 := Tryz.zeroValue413
  t53 := Tryz.underlying22
  a53 := Tryz.isAgg22
  z53 := Tryz.sizeOf22
  v53 := Tryz.zeroValue22
  t75 := Tryz.underlying303
  a75 := Tryz.isAgg303
  z75 := Tryz.sizeOf303
  v75 := Tryz.zeroValue303
  t85 := Tryz.underlying304
  a85 := Tryz.isAgg304
  z85 := Tryz.sizeOf304
  v85 := Tryz.zeroValue304
  t127 := Tryz.underlying371
  a127 := Tryz.isAgg371
  z127 := Tryz.sizeOf371
  v127 := Tryz.zeroValue371
  t143 := Tryz.underlying448
  a143 := Tryz.isAgg448
  z143 := Tryz.sizeOf448
  v143 := Tryz.zeroValue448
  t145 := Tryz.underlying450
  a145 := Tryz.isAgg450
  z145 := Tryz.sizeOf450
  v145 := Tryz.zeroValue450
  t167 := Tryz.underlying389
  a167 := Tryz.isAgg389
  z167 := Tryz.sizeOf389
  v167 := Tryz.zeroValue389
  t168 := Tryz.underlying390
  a168 := Tryz.isAgg390
  z168 := Tryz.sizeOf390
  v168 := Tryz.zeroValue390
  t171 := Tryz.underlying408
  a171 := Tryz.isAgg408
  z171 := Tryz.sizeOf408
  v171 := Tryz.zeroValue408
  t173 := Tryz.underlying411
  a173 := Tryz.isAgg411
  z173 := Tryz.sizeOf411
  v173 := Tryz.zeroValue411
  t175 := Tryz.underlying323
  a175 := Tryz.isAgg323
  z175 := Tryz.sizeOf323
  v175 := Tryz.zeroValue323
  t210 := Tryz.underlying426
  a210 := Tryz.isAgg426
  z210 := Tryz.sizeOf426
  v210 := Tryz.zeroValue426
  t212 := Tryz.underlying429
  a212 := Tryz.isAgg429
  z212 := Tryz.sizeOf429
  v212 := Tryz.zeroValue429
  t213 := Tryz.underlying430
  a213 := Tryz.isAgg430
  z213 := Tryz.sizeOf430
  t232 := Tryz.underlying457
  a232 := Tryz.isAgg457
  z232 := Tryz.sizeOf457
  v232 := Tryz.zeroValue457
  t233 := Tryz.underlying458
  a233 := Tryz.isAgg458
  z233 := Tryz.sizeOf458
  v233 := Tryz.zeroValue458
  g15 := by kernel_rfl
  g16 := by kernel_rfl
  g17 := by kernel_rfl
  g18 := by kernel_rfl
  g19 := by kernel_rfl
  t80 := Tryz.underlying315
  a80 := Tryz.isAgg315
  z80 := Tryz.sizeOf315
  v80 := Tryz.zeroValue315
  i0 := by kernel_rfl
  i2 := by kernel_rfl
  i3 := by kernel_rfl
  i4 := by kernel_rfl
  i5 := by kernel_rfl
  i9 := by kernel_rfl
  i20 := by kernel_rfl
  i21 := by kernel_rfl
  i37 := by kernel_rfl
  i46 := by kernel_rfl
  i51 := by kernel_rfl
  i53 := by kernel_rfl
  i75 := by kernel_rfl
  i80 := by kernel_rfl
  i85 := by kernel_rfl
  i127 := by kernel_rfl
  i143 := by kernel_rfl
  i145 := by kernel_rfl
  i167 := by kernel_rfl
  i168 := by kernel_rfl
  i171 := by kernel_rfl
  i173 := by kernel_rfl
  i175 := by kernel_rfl
  i210 := by kernel_rfl
  i212 := by kernel_rfl
  i232 := by kernel_rfl
  i233 := by kernel_rfl
  m15 := by kernel_rfl
  m16 := by kernel_rfl
  m17 := by kernel_rfl
  m18 := by kernel_rfl
  m19 := by kernel_rfl
  c0 := by kernel_rfl
  c2 := by kernel_rfl
  c3 := by kernel_rfl
  c4 := by kernel_rfl
  c5 := by kernel_rfl
  c9 := by kernel_rfl
  c20 := by kernel_rfl
  c21 := by kernel_rfl
  c37 := by kernel_rfl
  c46 := by kernel_rfl
  c51 := by kernel_rfl
  c53 := by kernel_rfl
  c75 := by kernel_rfl
  c80 := by kernel_rfl
  c85 := by kernel_rfl
  c127 := by kernel_rfl
  c143 := by kernel_rfl
  c145 := by kernel_rfl
  c167 := by kernel_rfl
  c168 := by kernel_rfl
  c171 := by kernel_rfl
  c173 := by kernel_rfl
  c175 := by kernel_rfl
  c210 := by kernel_rfl
  c212 := by kernel_rfl
  c213 := by kernel_rfl
  c232 := by kernel_rfl
  c233 := by kernel_rfl }
open Go.RowKit in
/-- strconv.ParseInt(s, 10, 64), AT EVERY STRING THAT SPELLS AN int64 ('Lib.parseIntB 64 s.data.toList = .ok v'): v, AND NO ERROR. (LAID: no walk: one application.) -/
theorem Tryz.strconv_ParseInt_10_at64_ok (s : ByteArray) (hmax : s.size ≤ 9223372036854775806) (v : Int) (h : Lib.parseIntB 64 s.data.toList = .ok v) (w : World) :
    Calls Tryz.prog 206 #[.string s, .int .i64 10, .int .i64 64] w fun e w' => e = .returned (.tuple #[.int .i64 v, .nilIface]) ∧ (w' = w ∨ ∃ t, w' = Lib.bytesWorld w 5 t) := Any.strconv_ParseInt_10_at64_ok Tryz.laysC174 s hmax v h w
open Go.RowKit in
/-- strconv.ParseInt(s, 10, 64), AT EVERY NUMERAL THAT NO int64 HOLDS: THE GREATEST OR THE LEAST int64, BY THE SIGN ('Lib.intSat 64'), AND AN ERROR THAT IS NOT nil: a *NumError in a new block N: {Func: "ParseInt", Num: s's bytes, Err: what the variable ErrRange holds}. Of what was there nothing has turned. (LAID: no walk: one application.) -/
theorem Tryz.strconv_ParseInt_10_at64_range (s : ByteArray) (hlim : s.size ≤ 281474976710656) (h : Lib.parseIntB 64 s.data.toList = .range) (ev : Value) (w : World) (hv : w.cell? ⟨0, 0, none⟩ = some ev) (hev : ev = .nilIface ∨ ∃ te pe, ev = .iface te pe) :
    Calls Tryz.prog 206 #[.string s, .int .i64 10, .int .i64 64] w fun e w' => ∃ N, e = .returned (.tuple #[.int .i64 (Lib.intSat 64 s.data.toList), .iface 390 (.pointer (some ⟨N, 0, none⟩))]) ∧ w.heap.size ≤ N ∧ w'.heap[N]? = some (.cells #[.string ⟨#[80, 97, 114, 115, 101, 73, 110, 116]⟩, .string s, ev] 426 (0, 0)) ∧ Below w.heap.size w w' := Any.strconv_ParseInt_10_at64_range Tryz.laysC174 s hlim h ev w hv hev
def Tryz.lays143_ren : Go.Shelf.Ren := ⟨fun | 143 => 294 | 219 => 315 | 217 => 337 | 225 => 335 | 224 => 334 | 267 => 338 | 266 => 347 | 314 => 348 | n => n, fun | 9 => 9 | 3 => 3 | 4 => 4 | 5 => 5 | 46 => 188 | 146 => 414 | 51 => 413 | n => n, fun | 1 => 5 | n => n⟩
theorem Tryz.lays143 : Go.Proofs.Lays.n143 Tryz.prog Tryz.lays143_ren := {
  mixed := by kernel_rfl
  f143 := Tryz.func294.trans (congrArg some (by kernel_rfl))
  f217 := Tryz.func337.trans (congrArg some (by kernel_rfl))
  f219 := Tryz.func315.trans (congrArg some (by kernel_rfl))
  f224 := Tryz.func334.trans (congrArg some (by kernel_rfl))
  f225 := Tryz.func335.trans (congrArg some (by kernel_rfl))
  f266 := Tryz.func347.trans (congrArg some (by kernel_rfl))
  f267 := Tryz.func338.trans (congrArg some (by kernel_rfl))
  f314 := Tryz.func348.trans (congrArg some (by kernel_rfl))
  t3 := Tryz.underlying3
  a3 := Tryz.isAgg3
  z3 := Tryz.sizeOf3
  v3 := Tryz.zeroValue3
  t4 := Tryz.underlying4
  a4 := Tryz.isAgg4
  z4 := Tryz.sizeOf4
  v4 := Tryz.zeroValue4
  t5 := Tryz.underlying5
  a5 := Tryz.isAgg5
  z5 := Tryz.sizeOf5
  v5 := Tryz.zeroValue5
  t9 := Tryz.underlying9
  a9 := Tryz.isAgg9
  z9 := Tryz.sizeOf9
  v9 := Tryz.zeroValue9
  t46 := Tryz.underlying188
  a46 := Tryz.isAgg188
  z46 := Tryz.sizeOf188
  v46 := Tryz.zeroValue188
  t51 := Tryz.underlying413
  a51 := Tryz.isAgg413
  z51 := Tryz.sizeOf413
  v51 := Tryz.zeroValue413
  t146 := Tryz.underlying414
  a146 := Tryz.isAgg414
  z146 := Tryz.sizeOf414
  v146 := Tryz.zeroValue414
  g1 := by kernel_rfl }
open Go.RowKit Go.Lib in
/-- strings.Index: "Index returns the index of the first instance of substr in s, or -1 if substr is not present in s.": AT A substr OF ONE BYTE c: IT RETURNS 'Lib.indexByte s c'; the world is as it was. (LAID: no walk: one application.) -/
theorem Tryz.strings_Index_one (s : ByteArray) (c : UInt8) (w : World) :
    Calls Tryz.prog 294 #[.string s, .string ⟨#[c]⟩] w fun e w' => e = .returned (.int .i64 (Lib.indexByte s.data.toList c)) ∧ w' = w := Any.strings_Index_one Tryz.lays143 s c w
def Tryz.lays101_ren : Go.Shelf.Ren := ⟨fun | 101 => 204 | 208 => 252 | 206 => 284 | n => n, fun | 9 => 9 | 4 => 4 | 3 => 3 | n => n, fun | n => n⟩
theorem Tryz.lays101 : Go.Proofs.Lays.n101 Tryz.prog Tryz.lays101_ren := {
  mixed := by kernel_rfl
  f101 := Tryz.func204.trans (congrArg some (by kernel_rfl))
  f206 := Tryz.func284.trans (congrArg some (by kernel_rfl))
  f208 := Tryz.func252.trans (congrArg some (by kernel_rfl))
  t3 := Tryz.underlying3
  a3 := Tryz.isAgg3
  z3 := Tryz.sizeOf3
  v3 := Tryz.zeroValue3
  t4 := Tryz.underlying4
  a4 := Tryz.isAgg4
  z4 := Tryz.sizeOf4
  v4 := Tryz.zeroValue4
  t9 := Tryz.underlying9
  a9 := Tryz.isAgg9
  z9 := Tryz.sizeOf9
  v9 := Tryz.zeroValue9 }
open Go.RowKit Go.Lib in
/-- strings.TrimPrefix: "TrimPrefix returns s without the provided leading prefix string. If s doesn't start with prefix, s is returned unchanged.": IT RETURNS 'Lib.trimPrefix s prefix'; the world is as it was. (LAID: no walk: one application.) -/
theorem Tryz.strings_TrimPrefix (s p : ByteArray) (w : World) :
    Calls Tryz.prog 204 #[.string s, .string p] w fun e w' => e = .returned (.string ⟨(Lib.trimPrefix s.data.toList p.data.toList).toArray⟩) ∧ w' = w := Any.strings_TrimPrefix Tryz.lays101 s p w
def Tryz.lays105_ren : Go.Shelf.Ren := ⟨fun | 105 => 218 | 212 => 271 | 99 => 272 | 165 => 267 | 166 => 268 | 170 => 273 | 169 => 211 | 263 => 301 | 264 => 302 | 206 => 284 | 240 => 265 | 241 => 300 | 276 => 295 | 277 => 321 | n => n, fun | 9 => 9 | 3 => 3 | 4 => 4 | 20 => 20 | 0 => 0 | 46 => 188 | 109 => 376 | 5 => 5 | 72 => 313 | 76 => 373 | 51 => 413 | 146 => 414 | 53 => 22 | 148 => 416 | 70 => 311 | 37 => 149 | 75 => 303 | 127 => 371 | 164 => 405 | 80 => 315 | n => n, fun | n => n⟩
theorem Tryz.lays105 : Go.Proofs.Lays.n105 Tryz.prog Tryz.lays105_ren := {
  mixed := by kernel_rfl
  f99 := Tryz.func272.trans (congrArg some (by kernel_rfl))
  f105 := Tryz.func218.trans (congrArg some (by kernel_rfl))
  f165 := Tryz.func267.trans (congrArg some (by kernel_rfl))
  f166 := Tryz.func268.trans (congrArg some (by kernel_rfl))
  f169 := Tryz.func211.trans (congrArg some (by kernel_rfl))
  f170 := Tryz.func273.trans (congrArg some (by kernel_rfl))
  f206 := Tryz.func284.trans (congrArg some (by kernel_rfl))
  f212 := Tryz.func271.trans (congrArg some (by kernel_rfl))
  f240 := Tryz.func265.trans (congrArg some (by kernel_rfl))
  f241 := Tryz.func300.trans (congrArg some (by kernel_rfl))
  f263 := Tryz.func301.trans (congrArg some (by kernel_rfl))
  f264 := Tryz.func302.trans (congrArg some (by kernel_rfl))
  f276 := Tryz.func295.trans (congrArg some (by kernel_rfl))
  f277 := Tryz.func321.trans (congrArg some (by kernel_rfl))
  t0 := Tryz.underlying0
  a0 := Tryz.isAgg0
  z0 := Tryz.sizeOf0
  v0 := Tryz.zeroValue0
  t3 := Tryz.underlying3
  a3 := Tryz.isAgg3
  z3 := Tryz.sizeOf3
  v3 := Tryz.zeroValue3
  t4 := Tryz.underlying4
  a4 := Tryz.isAgg4
  z4 := Tryz.sizeOf4
  v4 := Tryz.zeroValue4
  t5 := Tryz.underlying5
  a5 := Tryz.isAgg5
  z5 := Tryz.sizeOf5
  v5 := Tryz.zeroValue5
  t9 := Tryz.underlying9
  a9 := Tryz.isAgg9
  z9 := Tryz.sizeOf9
  v9 := Tryz.zeroValue9
  t20 := Tryz.underlying20
  a20 := Tryz.isAgg20
  z20 := Tryz.sizeOf20
  v20 := Tryz.zeroValue20
  t37 := Tryz.underlying149
  a37 := Tryz.isAgg149
  z37 := Tryz.sizeOf149
  v37 := Tryz.zeroValue149
  t46 := Tryz.underlying188
  a46 := Tryz.isAgg188
  z46 := Tryz.sizeOf188
  v46 := Tryz.zeroValue188
  t51 := Tryz.underlying413
  a51 := Tryz.isAgg413
  z51 := Tryz.sizeOf413
  v51 := Tryz.zeroValue413
  t53 := Tryz.underlying22
  a53 := Tryz.isAgg22
  z53 := Tryz.sizeOf22
  v53 := Tryz.zeroValue22
  t70 := Tryz.underlying311
  a70 := Tryz.isAgg311
  z70 := Tryz.sizeOf311
  v70 := Tryz.zeroValue311
  t72 := Tryz.underlying313
  a72 := Tryz.isAgg313
  z72 := Tryz.sizeOf313
  v72 := Tryz.zeroValue313
  t75 := Tryz.underlying303
  a75 := Tryz.isAgg303
  z75 := Tryz.sizeOf303
  v75 := Tryz.zeroValue303
  t76 := Tryz.underlying373
  a76 := Tryz.isAgg373
  z76 := Tryz.sizeOf373
  v76 := Tryz.zeroValue373
  t109 := Tryz.underlying376
  a109 := Tryz.isAgg376
  z109 := Tryz.sizeOf376
  v109 := Tryz.zeroValue376
  t127 := Tryz.underlying371
  a127 := Tryz.isAgg371
  z127 := Tryz.sizeOf371
  v127 := Tryz.zeroValue371
  t146 := Tryz.underlying414
  a146 := Tryz.isAgg414
  z146 := Tryz.sizeOf414
  v146 := Tryz.zeroValue414
  t148 := Tryz.underlying416
  a148 := Tryz.isAgg416
  z148 := Tryz.sizeOf416
  v148 := Tryz.zeroValue416
  t164 := Tryz.underlying405
  a164 := Tryz.isAgg405
  z164 := Tryz.sizeOf405
  v164 := Tryz.zeroValue405 }
theorem Tryz.Builder_Extra_105 : Builder.Extra Tryz.prog Tryz.lays105_ren := {
  sizeBuilder := by kernel_rfl
  liesBuilder := by kernel_rfl
  t5 := Tryz.underlying5
  a5 := Tryz.isAgg5
  z5 := Tryz.sizeOf5
  v5 := Tryz.zeroValue5
  infoByte := by kernel_rfl
  cellsByte := by kernel_rfl
  sizeByte := by kernel_rfl
  neB5 := by decide }
open Go.RowKit Go.Lib in
/-- **strings.Repeat: count ≥ 0, the result within one allocation: count copies of s.** (LAID: no walk: one application.) -/
theorem Tryz.strings_Repeat (s : ByteArray) (c : Nat) (w : World) (hc : c ≤ 9223372036854775807) (hlen : s.size * c ≤ 140737488355328) :
    Calls Tryz.prog 218 #[.string s, .int .i64 c] w fun e w' => e = .returned (.string ⟨(Lib.repeatL s.data.toList c).toArray⟩) ∧ Below w.heap.size w w' := Any.strings_Repeat Tryz.lays105 Tryz.Builder_Extra_105 s c w hc hlen
end Go.Proofs
