/-
  DERIVED: THE SHELF's CONTRACTS AT THIS DUMP, IN PLAIN WORDS (tools/lay-plain.mjs out of 'YtpbpfngichfgeaaGreatDoorShelf0.lean', which tools/lay-shelf.mjs wrote): THE SAME DECLARATIONS UNDER THE SAME NAMES: 'import', 'namespace', 'open', 'def', 'theorem' AND NOTHING ELSE: no command of the shelf's: FOR A HAND-IN. Each laying: the table of numbers ('.._ren') and one theorem, a field a fact of the dump's own or the kernel's comparison; each contract: ONE APPLICATION.
-/
import Derived.Shelf.Strings.Builder1
import Derived.Shelf.Small.Utf8
import Derived.Shelf.Small.Strs
import Derived.Shelf.Strings.BuilderF
import Derived.Shelf.Strings.BuilderK
import Derived.Shelf.Strconv.Atoi
import Derived.Shelf.Strconv.Itoa0
import Derived.Shelf.Strconv.Itoa1
import Derived.Shelf.LaysM
import Derived.Shelf.Strconv.Itoa2
import Derived.Shelf.Strconv.Itoa3
import Derived.Shelf.Strconv.Itoa4
import Derived.Shelf.Strconv.AtoiErrFast
import Derived.Shelf.Strconv.ParseIntEmpty
import Derived.Shelf.Strconv.AtoiFail
import Derived.Shelf.Strconv.Clone
import Derived.Shelf.Strconv.SyntaxError
import Derived.Shelf.LaysC
import Derived.Shelf.Strconv.ToError
import Derived.Shelf.Strconv.AtoiErr
import Derived.Shelf.Strconv.Lower
import Derived.Shelf.Strconv.ParseUint10
import Derived.Shelf.Strconv.ParseUint10Empty
import Derived.Shelf.Strconv.ParseUint10Any
import Derived.Shelf.Strconv.ParseInt10
import Derived.Shelf.Strconv.AtoiLong
import Derived.Shelf.Strconv.AtoiInnerAll
import Derived.Shelf.Strconv.RangeError
import Derived.Shelf.Strconv.ToErrorRange
import Derived.Shelf.Strconv.AtoiAll
import Derived.Shelf.Strconv.ErrVarAll
import Derived.Shelf.Strconv.ParseUintEmpty
import Derived.Shelf.Strconv.ParseUint10b64
import Derived.Shelf.Strconv.ParseUint10b32
import Derived.Shelf.Strconv.ParseUint10b16
import Derived.Shelf.Strconv.ParseUint10b8
import Derived.Shelf.Strconv.ParseUint10At
import Derived.Shelf.Strconv.ParseInt10At64
import Derived.Shelf.Strconv.ParseInt10At32
import Derived.Shelf.Strconv.ParseInt10At16
import Derived.Shelf.Strconv.ParseInt10At8
import Derived.Shelf.Strconv.ParseInt10All
import Derived.Shelf.Strconv.ParseIntPublic10
import Derived.Shelf.Strconv.ErrVarParseInt
import Derived.Shelf.Strings.Search1
import Derived.Shelf.Strings.Search2
import Derived.Shelf.Strings.Search3
import Derived.Shelf.Strings.Cut
import Derived.Shelf.Strings.Shaped
import Derived.Shelf.Strings.Prefix
import Derived.Shelf.Strings.Runes
import Derived.Shelf.Strings.IndexAny
import Derived.Shelf.Strings.AsciiSet
import Derived.Shelf.Strings.IndexAnyAll
import Derived.Test.YtpbpfngichfgeaaGreatDoorProg
namespace Go.Proofs
open Go.Shelf
def Tryz.lays169_ren : Go.Shelf.Ren := ⟨fun | 169 => 50 | n => n, fun | 70 => 107 | 9 => 9 | 0 => 0 | 72 => 109 | 37 => 32 | 127 => 155 | 3 => 3 | 5 => 5 | n => n, fun | n => n⟩
theorem Tryz.lays169 : Go.Proofs.Lays.n169 Tryz.prog Tryz.lays169_ren := {
  mixed := by kernel_rfl
  f169 := Tryz.func50.trans (congrArg some (by kernel_rfl))
  t0 := Tryz.underlying0
  a0 := Tryz.isAgg0
  z0 := Tryz.sizeOf0
  v0 := Tryz.zeroValue0
  t3 := Tryz.underlying3
  a3 := Tryz.isAgg3
  z3 := Tryz.sizeOf3
  v3 := Tryz.zeroValue3
  t9 := Tryz.underlying9
  a9 := Tryz.isAgg9
  z9 := Tryz.sizeOf9
  v9 := Tryz.zeroValue9
  t37 := Tryz.underlying32
  a37 := Tryz.isAgg32
  z37 := Tryz.sizeOf32
  v37 := Tryz.zeroValue32
  t70 := Tryz.underlying107
  a70 := Tryz.isAgg107
  z70 := Tryz.sizeOf107
  v70 := Tryz.zeroValue107
  t72 := Tryz.underlying109
  a72 := Tryz.isAgg109
  z72 := Tryz.sizeOf109
  v72 := Tryz.zeroValue109
  t127 := Tryz.underlying155
  a127 := Tryz.isAgg155
  z127 := Tryz.sizeOf155
  v127 := Tryz.zeroValue155 }
theorem Tryz.Builder_Extra_169 : Builder.Extra Tryz.prog Tryz.lays169_ren := {
  sizeBuilder := by kernel_rfl
  liesBuilder := by kernel_rfl
  t5 := Tryz.underlying5
  a5 := Tryz.isAgg5
  z5 := Tryz.sizeOf5
  v5 := Tryz.zeroValue5
  infoByte := by kernel_rfl
  cellsByte := by kernel_rfl
  sizeByte := by kernel_rfl
  neB5 := by decide }
open Go.RowKit in
/-- (*strings.Builder).String: "String returns the accumulated string.": WHATEVER THE BUILDER HOLDS. (LAID: no walk: one application.) -/
theorem Tryz.Builder_String_any (B b : Nat) (l : List UInt8) (w : World) (h : Lib.IsBuilder 109 5 B b (Lib.byteCells l) w) (hBw : B ≤ w.heap.size) :
    Calls Tryz.prog 50 #[.pointer (some ⟨b, 0, none⟩)] w fun e w' => e = .returned (.string ⟨l.toArray⟩) ∧ Below B w w' := Any.Builder_String_any Tryz.lays169 Tryz.Builder_Extra_169 B b l w h hBw
def Tryz.lays119_ren : Go.Shelf.Ren := ⟨fun | 119 => 134 | n => n, fun | 21 => 21 | 4 => 4 | n => n, fun | n => n⟩
def Tryz.lays137_ren : Go.Shelf.Ren := ⟨fun | 137 => 133 | 217 => 123 | 266 => 140 | n => n, fun | 9 => 9 | 5 => 5 | 3 => 3 | n => n, fun | n => n⟩
theorem Tryz.lays137 : Go.Proofs.Lays.n137 Tryz.prog Tryz.lays137_ren := {
  mixed := by kernel_rfl
  f137 := Tryz.func133.trans (congrArg some (by kernel_rfl))
  f217 := Tryz.func123.trans (congrArg some (by kernel_rfl))
  f266 := Tryz.func140.trans (congrArg some (by kernel_rfl))
  t3 := Tryz.underlying3
  a3 := Tryz.isAgg3
  z3 := Tryz.sizeOf3
  v3 := Tryz.zeroValue3
  t5 := Tryz.underlying5
  a5 := Tryz.isAgg5
  z5 := Tryz.sizeOf5
  v5 := Tryz.zeroValue5
  t9 := Tryz.underlying9
  a9 := Tryz.isAgg9
  z9 := Tryz.sizeOf9
  v9 := Tryz.zeroValue9 }
open Go.RowKit in
/-- strings.IndexByte: "IndexByte returns the index of the first instance of c in s, or -1 if c is not present in s.": IT RETURNS 'Lib.indexByte s c'; the world is as it was. (LAID: no walk: one application.) -/
theorem Tryz.strings_IndexByte (s : ByteArray) (c : Int) (w : World) :
    Calls Tryz.prog 133 #[.string s, .int .u8 c] w fun e w' => e = .returned (.int .i64 (Lib.indexByte s.data.toList c.toNat.toUInt8)) ∧ w' = w := Any.strings_IndexByte Tryz.lays137 s c w
def Tryz.lays244_ren : Go.Shelf.Ren := ⟨fun | 244 => 131 | 247 => 144 | 287 => 151 | 321 => 154 | 322 => 155 | n => n, fun | 9 => 9 | 3 => 3 | 75 => 30 | 4 => 4 | 5 => 5 | 167 => 233 | 37 => 32 | 0 => 0 | 85 => 231 | 2 => 2 | 53 => 209 | 175 => 238 | 46 => 216 | 21 => 21 | 80 => 115 | n => n, fun | n => n⟩
def Tryz.lays172_ren : Go.Shelf.Ren := ⟨fun | 172 => 113 | 244 => 131 | 245 => 132 | 247 => 144 | 279 => 145 | 280 => 146 | 281 => 147 | 282 => 148 | 287 => 151 | 316 => 152 | 171 => 48 | 205 => 153 | 321 => 154 | 322 => 155 | 243 => 80 | 246 => 105 | 283 => 119 | 284 => 120 | 285 => 121 | 286 => 122 | 129 => 136 | 317 => 135 | 318 => 137 | 319 => 138 | 320 => 139 | 337 => 149 | 338 => 150 | n => n, fun | 9 => 9 | 3 => 3 | 75 => 30 | 76 => 111 | 4 => 4 | 5 => 5 | 167 => 233 | 37 => 32 | 0 => 0 | 85 => 231 | 2 => 2 | 168 => 234 | 53 => 209 | 175 => 238 | 46 => 216 | 210 => 241 | 127 => 155 | 145 => 248 | 143 => 246 | 21 => 21 | 171 => 208 | 173 => 212 | 212 => 224 | 51 => 225 | 20 => 20 | 213 => 226 | 232 => 243 | 233 => 244 | 80 => 115 | n => n, fun | 15 => 3 | 16 => 4 | 17 => 2 | 18 => 5 | 19 => 6 | n => n⟩
theorem Tryz.lays172 : Go.Proofs.Lays.n172 Tryz.prog Tryz.lays172_ren := {
  mixed := by kernel_rfl
  f129 := Tryz.func136.trans (congrArg some (by kernel_rfl))
  f171 := Tryz.func48.trans (congrArg some (by kernel_rfl))
  f172 := Tryz.func113.trans (congrArg some (by kernel_rfl))
  f205 := Tryz.func153.trans (congrArg some (by kernel_rfl))
  f243 := Tryz.func80.trans (congrArg some (by kernel_rfl))
  f244 := Tryz.func131.trans (congrArg some (by kernel_rfl))
  f245 := Tryz.func132.trans (congrArg some (by kernel_rfl))
  f246 := Tryz.func105.trans (congrArg some (by kernel_rfl))
  f247 := Tryz.func144.trans (congrArg some (by kernel_rfl))
  f279 := Tryz.func145.trans (congrArg some (by kernel_rfl))
  f280 := Tryz.func146.trans (congrArg some (by kernel_rfl))
  f281 := Tryz.func147.trans (congrArg some (by kernel_rfl))
  f282 := Tryz.func148.trans (congrArg some (by kernel_rfl))
  f283 := Tryz.func119.trans (congrArg some (by kernel_rfl))
  f284 := Tryz.func120.trans (congrArg some (by kernel_rfl))
  f285 := Tryz.func121.trans (congrArg some (by kernel_rfl))
  f286 := Tryz.func122.trans (congrArg some (by kernel_rfl))
  f287 := Tryz.func151.trans (congrArg some (by kernel_rfl))
  f316 := Tryz.func152.trans (congrArg some (by kernel_rfl))
  f317 := Tryz.func135.trans (congrArg some (by kernel_rfl))
  f318 := Tryz.func137.trans (congrArg some (by kernel_rfl))
  f319 := Tryz.func138.trans (congrArg some (by kernel_rfl))
  f320 := Tryz.func139.trans (congrArg some (by kernel_rfl))
  f321 := Tryz.func154.trans (congrArg some (by kernel_rfl))
  f322 := Tryz.func155.trans (congrArg some (by kernel_rfl))
  f337 := Tryz.func149.trans (congrArg some (by kernel_rfl))
  f338 := Tryz.func150.trans (congrArg some (by kernel_rfl))
  t0 := Tryz.underlying0
  a0 := Tryz.isAgg0
  z0 := Tryz.sizeOf0
  v0 := Tryz.zeroValue0
  t2 := Tryz.underlying2
  a2 := Tryz.isAgg2
  z2 := Tryz.sizeOf2
  v2 := Tryz.zeroValue2
  t3 := Tryz.underlying3
  a3 := Tryz.isAgg3
  z3 := Tryz.sizeOf3
  v3 := Tryz.zeroValue3
  t4 := Tryz.underlying4
  a4 := Tryz.isAgg4
  z4 := Tryz.sizeOf4
  v4 := Tryz.zeroValue4
  t5 := Tryz.underlying5
  a5 := Tryz.isAgg5
  z5 := Tryz.sizeOf5
  v5 := Tryz.zeroValue5
  t9 := Tryz.underlying9
  a9 := Tryz.isAgg9
  z9 := Tryz.sizeOf9
  v9 := Tryz.zeroValue9
  t20 := Tryz.underlying20
  a20 := Tryz.isAgg20
  z20 := Tryz.sizeOf20
  v20 := Tryz.zeroValue20
  t21 := Tryz.underlying21
  a21 := Tryz.isAgg21
  z21 := Tryz.sizeOf21
  v21 := Tryz.zeroValue21
  t37 := Tryz.underlying32
  a37 := Tryz.isAgg32
  z37 := Tryz.sizeOf32
  v37 := Tryz.zeroValue32
  t46 := Tryz.underlying216
  a46 := Tryz.isAgg216
  z46 := Tryz.sizeOf216
  v46 := Tryz.zeroValue216
  t51 := Tryz.underlying225
  a51 := Tryz.isAgg225
  z51 := Tryz.sizeOf225
  v51 := Tryz.zeroValue225
  t53 := Tryz.underlying209
  a53 := Tryz.isAgg209
  z53 := Tryz.sizeOf209
  v53 := Tryz.zeroValue209
  t75 := Tryz.underlying30
  a75 := Tryz.isAgg30
  z75 := Tryz.sizeOf30
  v75 := Tryz.zeroValue30
  t76 := Tryz.underlying111
  a76 := Tryz.isAgg111
  z76 := Tryz.sizeOf111
  v76 := Tryz.zeroValue111
  t85 := Tryz.underlying231
  a85 := Tryz.isAgg231
  z85 := Tryz.sizeOf231
  v85 := Tryz.zeroValue231
  t127 := Tryz.underlying155
  a127 := Tryz.isAgg155
  z127 := Tryz.sizeOf155
  v127 := Tryz.zeroValue155
  t143 := Tryz.underlying246
  a143 := Tryz.isAgg246
  z143 := Tryz.sizeOf246
  v143 := Tryz.zeroValue246
  t145 := Tryz.underlying248
  a145 := Tryz.isAgg248
  z145 := Tryz.sizeOf248
  v145 := Tryz.zeroValue248
  t167 := Tryz.underlying233
  a167 := Tryz.isAgg233
  z167 := Tryz.sizeOf233
  v167 := Tryz.zeroValue233
  t168 := Tryz.underlying234
  a168 := Tryz.isAgg234
  z168 := Tryz.sizeOf234
  v168 := Tryz.zeroValue234
  t171 := Tryz.underlying208
  a171 := Tryz.isAgg208
  z171 := Tryz.sizeOf208
  v171 := Tryz.zeroValue208
  t173 := Tryz.underlying212
  a173 := Tryz.isAgg212
  z173 := Tryz.sizeOf212
  v173 := Tryz.zeroValue212
  t175 := Tryz.underlying238
  a175 := Tryz.isAgg238
  z175 := Tryz.sizeOf238
  v175 := Tryz.zeroValue238
  t210 := Tryz.underlying241
  a210 := Tryz.isAgg241
  z210 := Tryz.sizeOf241
  v210 := Tryz.zeroValue241
  t212 := Tryz.underlying224
  a212 := Tryz.isAgg224
  z212 := Tryz.sizeOf224
  v212 := Tryz.zeroValue224
  t213 := Tryz.underlying226
  a213 := Tryz.isAgg226
  z213 := Tryz.sizeOf226
  t232 := Tryz.underlying243
  a232 := Tryz.isAgg243
  z232 := Tryz.sizeOf243
  v232 := Tryz.zeroValue243
  t233 := Tryz.underlying244
  a233 := Tryz.isAgg244
  z233 := Tryz.sizeOf244
  v233 := Tryz.zeroValue244
  g15 := by kernel_rfl
  g16 := by kernel_rfl
  g17 := by kernel_rfl
  g18 := by kernel_rfl
  g19 := by kernel_rfl }
open Go.RowKit in
/-- strconv.Atoi: "Atoi is equivalent to ParseInt(s, 10, 0), converted to type int.": AT A DECIMAL NUMERAL OF AT MOST 18 BYTES: its value, and a nil error. The world behind the call: the one new row that the library's '[]byte(s)' lays. (LAID: no walk: one application.) -/
theorem Tryz.strconv_Atoi (s : ByteArray) (n : Int) (hl : s.size ≤ 18) (h : Lib.atoi s.data.toList = some n) (w : World) :
    Calls Tryz.prog 113 #[.string s] w fun e w' => e = .returned (.tuple #[.int .i64 n, .nilIface]) ∧ ∃ t, w' = Lib.bytesWorld w 5 t := Any.strconv_Atoi Tryz.lays172 s n hl h w
def Tryz.lays129_ren : Go.Shelf.Ren := ⟨fun | 129 => 136 | n => n, fun | 53 => 209 | 3 => 3 | 4 => 4 | 46 => 216 | 5 => 5 | 9 => 9 | n => n, fun | n => n⟩
def Tryz.lays317_ren : Go.Shelf.Ren := ⟨fun | 317 => 135 | n => n, fun | 3 => 3 | 46 => 216 | n => n, fun | n => n⟩
def Tryz.lays318_ren : Go.Shelf.Ren := ⟨fun | 318 => 137 | n => n, fun | 3 => 3 | 4 => 4 | n => n, fun | n => n⟩
def Tryz.lays283_ren : Go.Shelf.Ren := ⟨fun | 283 => 119 | n => n, fun | 3 => 3 | 9 => 9 | 4 => 4 | n => n, fun | n => n⟩
def Tryz.laysM284_ren : Go.Shelf.Ren := ⟨fun | 284 => 120 | 129 => 136 | 317 => 135 | 318 => 137 | n => n, fun | 53 => 209 | 3 => 3 | 212 => 224 | 0 => 0 | 4 => 4 | 46 => 216 | 5 => 5 | 9 => 9 | n => n, fun | 17 => 2 | n => n⟩
def Tryz.lays285_ren : Go.Shelf.Ren := ⟨fun | 285 => 121 | n => n, fun | 37 => 32 | 53 => 209 | 3 => 3 | 4 => 4 | 51 => 225 | 9 => 9 | 5 => 5 | 0 => 0 | n => n, fun | n => n⟩
def Tryz.laysM246_ren : Go.Shelf.Ren := ⟨fun | 246 => 105 | 283 => 119 | 284 => 120 | 285 => 121 | 286 => 122 | 129 => 136 | 317 => 135 | 318 => 137 | 319 => 138 | 320 => 139 | 337 => 149 | 338 => 150 | n => n, fun | 2 => 2 | 3 => 3 | 9 => 9 | 4 => 4 | 171 => 208 | 0 => 0 | 53 => 209 | 37 => 32 | 5 => 5 | 173 => 212 | 212 => 224 | 51 => 225 | 20 => 20 | 213 => 226 | 46 => 216 | 232 => 243 | 233 => 244 | n => n, fun | 17 => 2 | 18 => 5 | 19 => 6 | n => n⟩
def Tryz.lays246_ren : Go.Shelf.Ren := ⟨fun | 246 => 105 | 283 => 119 | 284 => 120 | 285 => 121 | 286 => 122 | 129 => 136 | 317 => 135 | 318 => 137 | 319 => 138 | 320 => 139 | 337 => 149 | 338 => 150 | n => n, fun | 2 => 2 | 3 => 3 | 9 => 9 | 4 => 4 | 171 => 208 | 0 => 0 | 53 => 209 | 37 => 32 | 5 => 5 | 173 => 212 | 212 => 224 | 51 => 225 | 20 => 20 | 213 => 226 | 46 => 216 | 232 => 243 | 233 => 244 | n => n, fun | 17 => 2 | 18 => 5 | 19 => 6 | n => n⟩
def Tryz.laysM243_ren : Go.Shelf.Ren := ⟨fun | 243 => 80 | 246 => 105 | 283 => 119 | 284 => 120 | 285 => 121 | 286 => 122 | 129 => 136 | 317 => 135 | 318 => 137 | 319 => 138 | 320 => 139 | 337 => 149 | 338 => 150 | n => n, fun | 3 => 3 | 9 => 9 | 2 => 2 | 4 => 4 | 171 => 208 | 0 => 0 | 53 => 209 | 37 => 32 | 5 => 5 | 173 => 212 | 212 => 224 | 51 => 225 | 20 => 20 | 213 => 226 | 46 => 216 | 232 => 243 | 233 => 244 | n => n, fun | 17 => 2 | 18 => 5 | 19 => 6 | n => n⟩
def Tryz.lays243_ren : Go.Shelf.Ren := ⟨fun | 243 => 80 | 246 => 105 | 283 => 119 | 284 => 120 | 285 => 121 | 286 => 122 | 129 => 136 | 317 => 135 | 318 => 137 | 319 => 138 | 320 => 139 | 337 => 149 | 338 => 150 | n => n, fun | 3 => 3 | 9 => 9 | 2 => 2 | 4 => 4 | 171 => 208 | 0 => 0 | 53 => 209 | 37 => 32 | 5 => 5 | 173 => 212 | 212 => 224 | 51 => 225 | 20 => 20 | 213 => 226 | 46 => 216 | 232 => 243 | 233 => 244 | n => n, fun | 17 => 2 | 18 => 5 | 19 => 6 | n => n⟩
def Tryz.laysM171_ren : Go.Shelf.Ren := ⟨fun | 171 => 48 | 243 => 80 | 246 => 105 | 283 => 119 | 284 => 120 | 285 => 121 | 286 => 122 | 129 => 136 | 317 => 135 | 318 => 137 | 319 => 138 | 320 => 139 | 337 => 149 | 338 => 150 | n => n, fun | 3 => 3 | 9 => 9 | 2 => 2 | 4 => 4 | 171 => 208 | 0 => 0 | 53 => 209 | 37 => 32 | 5 => 5 | 173 => 212 | 212 => 224 | 51 => 225 | 20 => 20 | 213 => 226 | 46 => 216 | 232 => 243 | 233 => 244 | n => n, fun | 17 => 2 | 18 => 5 | 19 => 6 | n => n⟩
theorem Tryz.laysM171 : Go.Proofs.LaysM.n171 Tryz.prog Tryz.laysM171_ren := {
  mixed := by kernel_rfl
  f129 := Tryz.func136.trans (congrArg some (by kernel_rfl))
  f171 := Tryz.func48.trans (congrArg some (by kernel_rfl))
  f243 := Tryz.func80.trans (congrArg some (by kernel_rfl))
  f246 := Tryz.func105.trans (congrArg some (by kernel_rfl))
  f283 := Tryz.func119.trans (congrArg some (by kernel_rfl))
  f284 := Tryz.func120.trans (congrArg some (by kernel_rfl))
  f285 := Tryz.func121.trans (congrArg some (by kernel_rfl))
  f286 := Tryz.func122.trans (congrArg some (by kernel_rfl))
  f317 := Tryz.func135.trans (congrArg some (by kernel_rfl))
  f318 := Tryz.func137.trans (congrArg some (by kernel_rfl))
  f319 := Tryz.func138.trans (congrArg some (by kernel_rfl))
  f320 := Tryz.func139.trans (congrArg some (by kernel_rfl))
  f337 := Tryz.func149.trans (congrArg some (by kernel_rfl))
  f338 := Tryz.func150.trans (congrArg some (by kernel_rfl))
  t0 := Tryz.underlying0
  a0 := Tryz.isAgg0
  z0 := Tryz.sizeOf0
  v0 := Tryz.zeroValue0
  t2 := Tryz.underlying2
  a2 := Tryz.isAgg2
  z2 := Tryz.sizeOf2
  v2 := Tryz.zeroValue2
  t3 := Tryz.underlying3
  a3 := Tryz.isAgg3
  z3 := Tryz.sizeOf3
  v3 := Tryz.zeroValue3
  t4 := Tryz.underlying4
  a4 := Tryz.isAgg4
  z4 := Tryz.sizeOf4
  v4 := Tryz.zeroValue4
  t5 := Tryz.underlying5
  a5 := Tryz.isAgg5
  z5 := Tryz.sizeOf5
  v5 := Tryz.zeroValue5
  t9 := Tryz.underlying9
  a9 := Tryz.isAgg9
  z9 := Tryz.sizeOf9
  v9 := Tryz.zeroValue9
  t20 := Tryz.underlying20
  a20 := Tryz.isAgg20
  z20 := Tryz.sizeOf20
  v20 := Tryz.zeroValue20
  t37 := Tryz.underlying32
  a37 := Tryz.isAgg32
  z37 := Tryz.sizeOf32
  v37 := Tryz.zeroValue32
  t46 := Tryz.underlying216
  a46 := Tryz.isAgg216
  z46 := Tryz.sizeOf216
  v46 := Tryz.zeroValue216
  t51 := Tryz.underlying225
  a51 := Tryz.isAgg225
  z51 := Tryz.sizeOf225
  v51 := Tryz.zeroValue225
  t53 := Tryz.underlying209
  a53 := Tryz.isAgg209
  z53 := Tryz.sizeOf209
  v53 := Tryz.zeroValue209
  t171 := Tryz.underlying208
  a171 := Tryz.isAgg208
  z171 := Tryz.sizeOf208
  v171 := Tryz.zeroValue208
  t173 := Tryz.underlying212
  a173 := Tryz.isAgg212
  z173 := Tryz.sizeOf212
  v173 := Tryz.zeroValue212
  t212 := Tryz.underlying224
  a212 := Tryz.isAgg224
  z212 := Tryz.sizeOf224
  v212 := Tryz.zeroValue224
  t213 := Tryz.underlying226
  a213 := Tryz.isAgg226
  z213 := Tryz.sizeOf226
  t232 := Tryz.underlying243
  a232 := Tryz.isAgg243
  z232 := Tryz.sizeOf243
  v232 := Tryz.zeroValue243
  t233 := Tryz.underlying244
  a233 := Tryz.isAgg244
  z233 := Tryz.sizeOf244
  v233 := Tryz.zeroValue244
  g17 := by kernel_rfl
  g18 := by kernel_rfl
  g19 := by kernel_rfl
  i0 := by kernel_rfl
  i2 := by kernel_rfl
  i3 := by kernel_rfl
  i4 := by kernel_rfl
  i5 := by kernel_rfl
  i9 := by kernel_rfl
  i20 := by kernel_rfl
  i37 := by kernel_rfl
  i46 := by kernel_rfl
  i51 := by kernel_rfl
  i53 := by kernel_rfl
  i171 := by kernel_rfl
  i173 := by kernel_rfl
  i212 := by kernel_rfl
  i232 := by kernel_rfl
  i233 := by kernel_rfl
  m17 := by kernel_rfl
  m18 := by kernel_rfl
  m19 := by kernel_rfl }
open Go.RowKit Go.Sort Go.Lib in
/-- strconv.Itoa: "Itoa is equivalent to FormatInt(int64(i), 10).": i's DECIMAL NUMERAL ('Lib.itoa': a '-' where i is negative, then the digits), FOR EVERY int. The world behind the call: the world before it, new blocks behind the heap (the library's 'var a [24]byte'), draws. (LAID: no walk: one application.) -/
theorem Tryz.strconv_Itoa (n : Int) (h0 : -9223372036854775808 ≤ n) (h1 : n ≤ 9223372036854775807) (w : World) (htab : Lib.TabIs Tryz.prog w "internal/strconv.uint64pow10" .u64 Lib.pow10Tab) :
    Calls Tryz.prog 48 #[.int .i64 n] w fun e w' => e = .returned (.string ⟨(Lib.itoa n).toArray⟩) ∧ ∃ k os, w' = grow (w.drewN k) os := Any.strconv_Itoa Tryz.laysM171 n h0 h1 w htab
def Tryz.lays171_ren : Go.Shelf.Ren := ⟨fun | 171 => 48 | 243 => 80 | 246 => 105 | 283 => 119 | 284 => 120 | 285 => 121 | 286 => 122 | 129 => 136 | 317 => 135 | 318 => 137 | 319 => 138 | 320 => 139 | 337 => 149 | 338 => 150 | n => n, fun | 3 => 3 | 9 => 9 | 2 => 2 | 4 => 4 | 171 => 208 | 0 => 0 | 53 => 209 | 37 => 32 | 5 => 5 | 173 => 212 | 212 => 224 | 51 => 225 | 20 => 20 | 213 => 226 | 46 => 216 | 232 => 243 | 233 => 244 | n => n, fun | 17 => 2 | 18 => 5 | 19 => 6 | n => n⟩
def Tryz.laysM173_ren : Go.Shelf.Ren := ⟨fun | 173 => 83 | 246 => 105 | 283 => 119 | 284 => 120 | 285 => 121 | 286 => 122 | 129 => 136 | 317 => 135 | 318 => 137 | 319 => 138 | 320 => 139 | 337 => 149 | 338 => 150 | n => n, fun | 2 => 2 | 3 => 3 | 9 => 9 | 4 => 4 | 171 => 208 | 0 => 0 | 53 => 209 | 37 => 32 | 5 => 5 | 173 => 212 | 212 => 224 | 51 => 225 | 20 => 20 | 213 => 226 | 46 => 216 | 232 => 243 | 233 => 244 | n => n, fun | 17 => 2 | 18 => 5 | 19 => 6 | n => n⟩
theorem Tryz.laysM173 : Go.Proofs.LaysM.n173 Tryz.prog Tryz.laysM173_ren := {
  mixed := by kernel_rfl
  f129 := Tryz.func136.trans (congrArg some (by kernel_rfl))
  f173 := Tryz.func83.trans (congrArg some (by kernel_rfl))
  f246 := Tryz.func105.trans (congrArg some (by kernel_rfl))
  f283 := Tryz.func119.trans (congrArg some (by kernel_rfl))
  f284 := Tryz.func120.trans (congrArg some (by kernel_rfl))
  f285 := Tryz.func121.trans (congrArg some (by kernel_rfl))
  f286 := Tryz.func122.trans (congrArg some (by kernel_rfl))
  f317 := Tryz.func135.trans (congrArg some (by kernel_rfl))
  f318 := Tryz.func137.trans (congrArg some (by kernel_rfl))
  f319 := Tryz.func138.trans (congrArg some (by kernel_rfl))
  f320 := Tryz.func139.trans (congrArg some (by kernel_rfl))
  f337 := Tryz.func149.trans (congrArg some (by kernel_rfl))
  f338 := Tryz.func150.trans (congrArg some (by kernel_rfl))
  t0 := Tryz.underlying0
  a0 := Tryz.isAgg0
  z0 := Tryz.sizeOf0
  v0 := Tryz.zeroValue0
  t2 := Tryz.underlying2
  a2 := Tryz.isAgg2
  z2 := Tryz.sizeOf2
  v2 := Tryz.zeroValue2
  t3 := Tryz.underlying3
  a3 := Tryz.isAgg3
  z3 := Tryz.sizeOf3
  v3 := Tryz.zeroValue3
  t4 := Tryz.underlying4
  a4 := Tryz.isAgg4
  z4 := Tryz.sizeOf4
  v4 := Tryz.zeroValue4
  t5 := Tryz.underlying5
  a5 := Tryz.isAgg5
  z5 := Tryz.sizeOf5
  v5 := Tryz.zeroValue5
  t9 := Tryz.underlying9
  a9 := Tryz.isAgg9
  z9 := Tryz.sizeOf9
  v9 := Tryz.zeroValue9
  t20 := Tryz.underlying20
  a20 := Tryz.isAgg20
  z20 := Tryz.sizeOf20
  v20 := Tryz.zeroValue20
  t37 := Tryz.underlying32
  a37 := Tryz.isAgg32
  z37 := Tryz.sizeOf32
  v37 := Tryz.zeroValue32
  t46 := Tryz.underlying216
  a46 := Tryz.isAgg216
  z46 := Tryz.sizeOf216
  v46 := Tryz.zeroValue216
  t51 := Tryz.underlying225
  a51 := Tryz.isAgg225
  z51 := Tryz.sizeOf225
  v51 := Tryz.zeroValue225
  t53 := Tryz.underlying209
  a53 := Tryz.isAgg209
  z53 := Tryz.sizeOf209
  v53 := Tryz.zeroValue209
  t171 := Tryz.underlying208
  a171 := Tryz.isAgg208
  z171 := Tryz.sizeOf208
  v171 := Tryz.zeroValue208
  t173 := Tryz.underlying212
  a173 := Tryz.isAgg212
  z173 := Tryz.sizeOf212
  v173 := Tryz.zeroValue212
  t212 := Tryz.underlying224
  a212 := Tryz.isAgg224
  z212 := Tryz.sizeOf224
  v212 := Tryz.zeroValue224
  t213 := Tryz.underlying226
  a213 := Tryz.isAgg226
  z213 := Tryz.sizeOf226
  t232 := Tryz.underlying243
  a232 := Tryz.isAgg243
  z232 := Tryz.sizeOf243
  v232 := Tryz.zeroValue243
  t233 := Tryz.underlying244
  a233 := Tryz.isAgg244
  z233 := Tryz.sizeOf244
  v233 := Tryz.zeroValue244
  g17 := by kernel_rfl
  g18 := by kernel_rfl
  g19 := by kernel_rfl
  i0 := by kernel_rfl
  i2 := by kernel_rfl
  i3 := by kernel_rfl
  i4 := by kernel_rfl
  i5 := by kernel_rfl
  i9 := by kernel_rfl
  i20 := by kernel_rfl
  i37 := by kernel_rfl
  i46 := by kernel_rfl
  i51 := by kernel_rfl
  i53 := by kernel_rfl
  i171 := by kernel_rfl
  i173 := by kernel_rfl
  i212 := by kernel_rfl
  i232 := by kernel_rfl
  i233 := by kernel_rfl
  m17 := by kernel_rfl
  m18 := by kernel_rfl
  m19 := by kernel_rfl }
open Go.RowKit Go.Sort Go.Lib in
/-- strconv.FormatInt: "FormatInt returns the string representation of i in the given base": AT BASE 10: i's decimal numeral, for every int64. (LAID: no walk: one application.) -/
theorem Tryz.strconv_FormatInt_10 (n : Int) (h0 : -9223372036854775808 ≤ n) (h1 : n ≤ 9223372036854775807) (w : World) (htab : Lib.TabIs Tryz.prog w "internal/strconv.uint64pow10" .u64 Lib.pow10Tab) :
    Calls Tryz.prog 83 #[.int .i64 n, .int .i64 10] w fun e w' => e = .returned (.string ⟨(Lib.itoa n).toArray⟩) ∧ ∃ k os, w' = grow (w.drewN k) os := Any.strconv_FormatInt_10 Tryz.laysM173 n h0 h1 w htab
def Tryz.lays173_ren : Go.Shelf.Ren := ⟨fun | 173 => 83 | 246 => 105 | 283 => 119 | 284 => 120 | 285 => 121 | 286 => 122 | 129 => 136 | 317 => 135 | 318 => 137 | 319 => 138 | 320 => 139 | 337 => 149 | 338 => 150 | n => n, fun | 2 => 2 | 3 => 3 | 9 => 9 | 4 => 4 | 171 => 208 | 0 => 0 | 53 => 209 | 37 => 32 | 5 => 5 | 173 => 212 | 212 => 224 | 51 => 225 | 20 => 20 | 213 => 226 | 46 => 216 | 232 => 243 | 233 => 244 | n => n, fun | 17 => 2 | 18 => 5 | 19 => 6 | n => n⟩
def Tryz.lays247_ren : Go.Shelf.Ren := ⟨fun | 247 => 144 | 287 => 151 | 321 => 154 | 322 => 155 | n => n, fun | 9 => 9 | 3 => 3 | 2 => 2 | 75 => 30 | 4 => 4 | 167 => 233 | 5 => 5 | 53 => 209 | 175 => 238 | 46 => 216 | 37 => 32 | 0 => 0 | 21 => 21 | 80 => 115 | n => n, fun | n => n⟩
def Tryz.laysM316_ren : Go.Shelf.Ren := ⟨fun | 316 => 152 | n => n, fun | 9 => 9 | 3 => 3 | 4 => 4 | 37 => 32 | 0 => 0 | 127 => 155 | 5 => 5 | n => n, fun | n => n⟩
def Tryz.laysM279_ren : Go.Shelf.Ren := ⟨fun | 279 => 145 | 316 => 152 | n => n, fun | 9 => 9 | 168 => 234 | 75 => 30 | 210 => 241 | 3 => 3 | 4 => 4 | 37 => 32 | 0 => 0 | 127 => 155 | 80 => 115 | 5 => 5 | n => n, fun | 15 => 3 | n => n⟩
def Tryz.laysC245_ren : Go.Shelf.Ren := ⟨fun | 245 => 132 | 279 => 145 | 280 => 146 | 281 => 147 | 282 => 148 | 316 => 152 | 171 => 48 | 205 => 153 | 243 => 80 | 246 => 105 | 283 => 119 | 284 => 120 | 285 => 121 | 286 => 122 | 129 => 136 | 317 => 135 | 318 => 137 | 319 => 138 | 320 => 139 | 337 => 149 | 338 => 150 | n => n, fun | 9 => 9 | 3 => 3 | 75 => 30 | 167 => 233 | 4 => 4 | 168 => 234 | 210 => 241 | 37 => 32 | 0 => 0 | 127 => 155 | 145 => 248 | 143 => 246 | 2 => 2 | 171 => 208 | 53 => 209 | 5 => 5 | 173 => 212 | 212 => 224 | 51 => 225 | 20 => 20 | 213 => 226 | 46 => 216 | 232 => 243 | 233 => 244 | 80 => 115 | n => n, fun | 15 => 3 | 16 => 4 | 17 => 2 | 18 => 5 | 19 => 6 | n => n⟩
def Tryz.laysC172_ren : Go.Shelf.Ren := ⟨fun | 172 => 113 | 244 => 131 | 245 => 132 | 247 => 144 | 279 => 145 | 280 => 146 | 281 => 147 | 282 => 148 | 287 => 151 | 316 => 152 | 171 => 48 | 205 => 153 | 321 => 154 | 322 => 155 | 243 => 80 | 246 => 105 | 283 => 119 | 284 => 120 | 285 => 121 | 286 => 122 | 129 => 136 | 317 => 135 | 318 => 137 | 319 => 138 | 320 => 139 | 337 => 149 | 338 => 150 | n => n, fun | 9 => 9 | 3 => 3 | 75 => 30 | 76 => 111 | 4 => 4 | 5 => 5 | 167 => 233 | 37 => 32 | 0 => 0 | 85 => 231 | 2 => 2 | 168 => 234 | 53 => 209 | 175 => 238 | 46 => 216 | 210 => 241 | 127 => 155 | 145 => 248 | 143 => 246 | 21 => 21 | 171 => 208 | 173 => 212 | 212 => 224 | 51 => 225 | 20 => 20 | 213 => 226 | 232 => 243 | 233 => 244 | 80 => 115 | n => n, fun | 15 => 3 | 16 => 4 | 17 => 2 | 18 => 5 | 19 => 6 | n => n⟩
theorem Tryz.laysC172 : Go.Proofs.LaysC.n172 Tryz.prog Tryz.laysC172_ren := {
  mixed := by kernel_rfl
  f129 := Tryz.func136.trans (congrArg some (by kernel_rfl))
  f171 := Tryz.func48.trans (congrArg some (by kernel_rfl))
  f172 := Tryz.func113.trans (congrArg some (by kernel_rfl))
  f205 := Tryz.func153.trans (congrArg some (by kernel_rfl))
  f243 := Tryz.func80.trans (congrArg some (by kernel_rfl))
  f244 := Tryz.func131.trans (congrArg some (by kernel_rfl))
  f245 := Tryz.func132.trans (congrArg some (by kernel_rfl))
  f246 := Tryz.func105.trans (congrArg some (by kernel_rfl))
  f247 := Tryz.func144.trans (congrArg some (by kernel_rfl))
  f279 := Tryz.func145.trans (congrArg some (by kernel_rfl))
  f280 := Tryz.func146.trans (congrArg some (by kernel_rfl))
  f281 := Tryz.func147.trans (congrArg some (by kernel_rfl))
  f282 := Tryz.func148.trans (congrArg some (by kernel_rfl))
  f283 := Tryz.func119.trans (congrArg some (by kernel_rfl))
  f284 := Tryz.func120.trans (congrArg some (by kernel_rfl))
  f285 := Tryz.func121.trans (congrArg some (by kernel_rfl))
  f286 := Tryz.func122.trans (congrArg some (by kernel_rfl))
  f287 := Tryz.func151.trans (congrArg some (by kernel_rfl))
  f316 := Tryz.func152.trans (congrArg some (by kernel_rfl))
  f317 := Tryz.func135.trans (congrArg some (by kernel_rfl))
  f318 := Tryz.func137.trans (congrArg some (by kernel_rfl))
  f319 := Tryz.func138.trans (congrArg some (by kernel_rfl))
  f320 := Tryz.func139.trans (congrArg some (by kernel_rfl))
  f321 := Tryz.func154.trans (congrArg some (by kernel_rfl))
  f322 := Tryz.func155.trans (congrArg some (by kernel_rfl))
  f337 := Tryz.func149.trans (congrArg some (by kernel_rfl))
  f338 := Tryz.func150.trans (congrArg some (by kernel_rfl))
  t0 := Tryz.underlying0
  a0 := Tryz.isAgg0
  z0 := Tryz.sizeOf0
  v0 := Tryz.zeroValue0
  t2 := Tryz.underlying2
  a2 := Tryz.isAgg2
  z2 := Tryz.sizeOf2
  v2 := Tryz.zeroValue2
  t3 := Tryz.underlying3
  a3 := Tryz.isAgg3
  z3 := Tryz.sizeOf3
  v3 := Tryz.zeroValue3
  t4 := Tryz.underlying4
  a4 := Tryz.isAgg4
  z4 := Tryz.sizeOf4
  v4 := Tryz.zeroValue4
  t5 := Tryz.underlying5
  a5 := Tryz.isAgg5
  z5 := Tryz.sizeOf5
  v5 := Tryz.zeroValue5
  t9 := Tryz.underlying9
  a9 := Tryz.isAgg9
  z9 := Tryz.sizeOf9
  v9 := Tryz.zeroValue9
  t20 := Tryz.underlying20
  a20 := Tryz.isAgg20
  z20 := Tryz.sizeOf20
  v20 := Tryz.zeroValue20
  t21 := Tryz.underlying21
  a21 := Tryz.isAgg21
  z21 := Tryz.sizeOf21
  v21 := Tryz.zeroValue21
  t37 := Tryz.underlying32
  a37 := Tryz.isAgg32
  z37 := Tryz.sizeOf32
  v37 := Tryz.zeroValue32
  t46 := Tryz.underlying216
  a46 := Tryz.isAgg216
  z46 := Tryz.sizeOf216
  v46 := Tryz.zeroValue216
  t51 := Tryz.underlying225
  a51 := Tryz.isAgg225
  z51 := Tryz.sizeOf225
  v51 := Tryz.zeroValue225
  t53 := Tryz.underlying209
  a53 := Tryz.isAgg209
  z53 := Tryz.sizeOf209
  v53 := Tryz.zeroValue209
  t75 := Tryz.underlying30
  a75 := Tryz.isAgg30
  z75 := Tryz.sizeOf30
  v75 := Tryz.zeroValue30
  t76 := Tryz.underlying111
  a76 := Tryz.isAgg111
  z76 := Tryz.sizeOf111
  v76 := Tryz.zeroValue111
  t85 := Tryz.underlying231
  a85 := Tryz.isAgg231
  z85 := Tryz.sizeOf231
  v85 := Tryz.zeroValue231
  t127 := Tryz.underlying155
  a127 := Tryz.isAgg155
  z127 := Tryz.sizeOf155
  v127 := Tryz.zeroValue155
  t143 := Tryz.underlying246
  a143 := Tryz.isAgg246
  z143 := Tryz.sizeOf246
  v143 := Tryz.zeroValue246
  t145 := Tryz.underlying248
  a145 := Tryz.isAgg248
  z145 := Tryz.sizeOf248
  v145 := Tryz.zeroValue248
  t167 := Tryz.underlying233
  a167 := Tryz.isAgg233
  z167 := Tryz.sizeOf233
  v167 := Tryz.zeroValue233
  t168 := Tryz.underlying234
  a168 := Tryz.isAgg234
  z168 := Tryz.sizeOf234
  v168 := Tryz.zeroValue234
  t171 := Tryz.underlying208
  a171 := Tryz.isAgg208
  z171 := Tryz.sizeOf208
  v171 := Tryz.zeroValue208
  t173 := Tryz.underlying212
  a173 := Tryz.isAgg212
  z173 := Tryz.sizeOf212
  v173 := Tryz.zeroValue212
  t175 := Tryz.underlying238
  a175 := Tryz.isAgg238
  z175 := Tryz.sizeOf238
  v175 := Tryz.zeroValue238
  t210 := Tryz.underlying241
  a210 := Tryz.isAgg241
  z210 := Tryz.sizeOf241
  v210 := Tryz.zeroValue241
  t212 := Tryz.underlying224
  a212 := Tryz.isAgg224
  z212 := Tryz.sizeOf224
  v212 := Tryz.zeroValue224
  t213 := Tryz.underlying226
  a213 := Tryz.isAgg226
  z213 := Tryz.sizeOf226
  t232 := Tryz.underlying243
  a232 := Tryz.isAgg243
  z232 := Tryz.sizeOf243
  v232 := Tryz.zeroValue243
  t233 := Tryz.underlying244
  a233 := Tryz.isAgg244
  z233 := Tryz.sizeOf244
  v233 := Tryz.zeroValue244
  g15 := by kernel_rfl
  g16 := by kernel_rfl
  g17 := by kernel_rfl
  g18 := by kernel_rfl
  g19 := by kernel_rfl
  t80 := Tryz.underlying115
  a80 := Tryz.isAgg115
  z80 := Tryz.sizeOf115
  v80 := Tryz.zeroValue115
  i0 := by kernel_rfl
  i2 := by kernel_rfl
  i3 := by kernel_rfl
  i4 := by kernel_rfl
  i5 := by kernel_rfl
  i9 := by kernel_rfl
  i20 := by kernel_rfl
  i21 := by kernel_rfl
  i37 := by kernel_rfl
  i46 := by kernel_rfl
  i51 := by kernel_rfl
  i53 := by kernel_rfl
  i75 := by kernel_rfl
  i76 := by kernel_rfl
  i80 := by kernel_rfl
  i85 := by kernel_rfl
  i127 := by kernel_rfl
  i143 := by kernel_rfl
  i145 := by kernel_rfl
  i167 := by kernel_rfl
  i168 := by kernel_rfl
  i171 := by kernel_rfl
  i173 := by kernel_rfl
  i175 := by kernel_rfl
  i210 := by kernel_rfl
  i212 := by kernel_rfl
  i232 := by kernel_rfl
  i233 := by kernel_rfl
  m15 := by kernel_rfl
  m16 := by kernel_rfl
  m17 := by kernel_rfl
  m18 := by kernel_rfl
  m19 := by kernel_rfl
  c0 := by kernel_rfl
  c2 := by kernel_rfl
  c3 := by kernel_rfl
  c4 := by kernel_rfl
  c5 := by kernel_rfl
  c9 := by kernel_rfl
  c20 := by kernel_rfl
  c21 := by kernel_rfl
  c37 := by kernel_rfl
  c46 := by kernel_rfl
  c51 := by kernel_rfl
  c53 := by kernel_rfl
  c75 := by kernel_rfl
  c76 := by kernel_rfl
  c80 := by kernel_rfl
  c85 := by kernel_rfl
  c127 := by kernel_rfl
  c143 := by kernel_rfl
  c145 := by kernel_rfl
  c167 := by kernel_rfl
  c168 := by kernel_rfl
  c171 := by kernel_rfl
  c173 := by kernel_rfl
  c175 := by kernel_rfl
  c210 := by kernel_rfl
  c212 := by kernel_rfl
  c213 := by kernel_rfl
  c232 := by kernel_rfl
  c233 := by kernel_rfl }
open Go.RowKit in
/-- strconv.Atoi, AT EVERY STRING OF AT MOST 18 BYTES THAT IS NO DECIMAL NUMERAL (the empty one too): 0, AND AN ERROR THAT IS NOT nil: a *NumError in a new block N: {Func: "Atoi", Num: s's bytes, Err: what the variable ErrSyntax holds}. Of what was there nothing has turned. (LAID: no walk: one application.) -/
theorem Tryz.strconv_Atoi_err (s : ByteArray) (hl : s.size ≤ 18) (h : Lib.atoi s.data.toList = none) (ev : Value) (w : World) (hv : w.cell? ⟨3, 0, none⟩ = some ev) (hev : ev = .nilIface ∨ ∃ te pe, ev = .iface te pe) :
    Calls Tryz.prog 113 #[.string s] w fun e w' => ∃ N, e = .returned (.tuple #[.int .i64 0, .iface 234 (.pointer (some ⟨N, 0, none⟩))]) ∧ w.heap.size ≤ N ∧ w'.heap[N]? = some (.cells #[.string ⟨#[65, 116, 111, 105]⟩, .string s, ev] 241 (0, 0)) ∧ Below w.heap.size w w' := Any.strconv_Atoi_err Tryz.laysC172 s hl h ev w hv hev
def Tryz.lays321_ren : Go.Shelf.Ren := ⟨fun | 321 => 154 | n => n, fun | 5 => 5 | n => n, fun | n => n⟩
def Tryz.lays287_ren : Go.Shelf.Ren := ⟨fun | 287 => 151 | 321 => 154 | 322 => 155 | n => n, fun | 9 => 9 | 3 => 3 | 53 => 209 | 75 => 30 | 4 => 4 | 167 => 233 | 5 => 5 | 46 => 216 | 37 => 32 | 0 => 0 | 21 => 21 | 80 => 115 | n => n, fun | n => n⟩
def Tryz.laysC247_ren : Go.Shelf.Ren := ⟨fun | 247 => 144 | 287 => 151 | 321 => 154 | 322 => 155 | n => n, fun | 9 => 9 | 3 => 3 | 2 => 2 | 75 => 30 | 4 => 4 | 167 => 233 | 5 => 5 | 53 => 209 | 175 => 238 | 46 => 216 | 37 => 32 | 0 => 0 | 21 => 21 | 80 => 115 | n => n, fun | n => n⟩
def Tryz.laysC244_ren : Go.Shelf.Ren := ⟨fun | 244 => 131 | 247 => 144 | 287 => 151 | 321 => 154 | 322 => 155 | n => n, fun | 9 => 9 | 3 => 3 | 75 => 30 | 4 => 4 | 5 => 5 | 167 => 233 | 37 => 32 | 0 => 0 | 85 => 231 | 2 => 2 | 53 => 209 | 175 => 238 | 46 => 216 | 21 => 21 | 80 => 115 | n => n, fun | n => n⟩
def Tryz.laysM280_ren : Go.Shelf.Ren := ⟨fun | 280 => 146 | 316 => 152 | n => n, fun | 9 => 9 | 168 => 234 | 75 => 30 | 210 => 241 | 3 => 3 | 4 => 4 | 37 => 32 | 0 => 0 | 127 => 155 | 80 => 115 | 5 => 5 | n => n, fun | 16 => 4 | n => n⟩
def Tryz.laysC174_ren : Go.Shelf.Ren := ⟨fun | 174 => 143 | 247 => 144 | 245 => 132 | 287 => 151 | 279 => 145 | 280 => 146 | 281 => 147 | 282 => 148 | 321 => 154 | 322 => 155 | 316 => 152 | 171 => 48 | 205 => 153 | 243 => 80 | 246 => 105 | 283 => 119 | 284 => 120 | 285 => 121 | 286 => 122 | 129 => 136 | 317 => 135 | 318 => 137 | 319 => 138 | 320 => 139 | 337 => 149 | 338 => 150 | n => n, fun | 9 => 9 | 3 => 3 | 2 => 2 | 75 => 30 | 85 => 231 | 4 => 4 | 167 => 233 | 5 => 5 | 53 => 209 | 175 => 238 | 46 => 216 | 168 => 234 | 37 => 32 | 0 => 0 | 210 => 241 | 21 => 21 | 127 => 155 | 145 => 248 | 143 => 246 | 171 => 208 | 173 => 212 | 212 => 224 | 51 => 225 | 20 => 20 | 213 => 226 | 232 => 243 | 233 => 244 | 80 => 115 | n => n, fun | 15 => 3 | 16 => 4 | 17 => 2 | 18 => 5 | 19 => 6 | n => n⟩
theorem Tryz.laysC174 : Go.Proofs.LaysC.n174 Tryz.prog Tryz.laysC174_ren := {
  mixed := by kernel_rfl
  f129 := Tryz.func136.trans (congrArg some (by kernel_rfl))
  f171 := Tryz.func48.trans (congrArg some (by kernel_rfl))
  f174 := Tryz.func143.trans (congrArg some (by kernel_rfl))
  f205 := Tryz.func153.trans (congrArg some (by kernel_rfl))
  f243 := Tryz.func80.trans (congrArg some (by kernel_rfl))
  f245 := Tryz.func132.trans (congrArg some (by kernel_rfl))
  f246 := Tryz.func105.trans (congrArg some (by kernel_rfl))
  f247 := Tryz.func144.trans (congrArg some (by kernel_rfl))
  f279 := Tryz.func145.trans (congrArg some (by kernel_rfl))
  f280 := Tryz.func146.trans (congrArg some (by kernel_rfl))
  f281 := Tryz.func147.trans (congrArg some (by kernel_rfl))
  f282 := Tryz.func148.trans (congrArg some (by kernel_rfl))
  f283 := Tryz.func119.trans (congrArg some (by kernel_rfl))
  f284 := Tryz.func120.trans (congrArg some (by kernel_rfl))
  f285 := Tryz.func121.trans (congrArg some (by kernel_rfl))
  f286 := Tryz.func122.trans (congrArg some (by kernel_rfl))
  f287 := Tryz.func151.trans (congrArg some (by kernel_rfl))
  f316 := Tryz.func152.trans (congrArg some (by kernel_rfl))
  f317 := Tryz.func135.trans (congrArg some (by kernel_rfl))
  f318 := Tryz.func137.trans (congrArg some (by kernel_rfl))
  f319 := Tryz.func138.trans (congrArg some (by kernel_rfl))
  f320 := Tryz.func139.trans (congrArg some (by kernel_rfl))
  f321 := Tryz.func154.trans (congrArg some (by kernel_rfl))
  f322 := Tryz.func155.trans (congrArg some (by kernel_rfl))
  f337 := Tryz.func149.trans (congrArg some (by kernel_rfl))
  f338 := Tryz.func150.trans (congrArg some (by kernel_rfl))
  t0 := Tryz.underlying0
  a0 := Tryz.isAgg0
  z0 := Tryz.sizeOf0
  v0 := Tryz.zeroValue0
  t2 := Tryz.underlying2
  a2 := Tryz.isAgg2
  z2 := Tryz.sizeOf2
  v2 := Tryz.zeroValue2
  t3 := Tryz.underlying3
  a3 := Tryz.isAgg3
  z3 := Tryz.sizeOf3
  v3 := Tryz.zeroValue3
  t4 := Tryz.underlying4
  a4 := Tryz.isAgg4
  z4 := Tryz.sizeOf4
  v4 := Tryz.zeroValue4
  t5 := Tryz.underlying5
  a5 := Tryz.isAgg5
  z5 := Tryz.sizeOf5
  v5 := Tryz.zeroValue5
  t9 := Tryz.underlying9
  a9 := Tryz.isAgg9
  z9 := Tryz.sizeOf9
  v9 := Tryz.zeroValue9
  t20 := Tryz.underlying20
  a20 := Tryz.isAgg20
  z20 := Tryz.sizeOf20
  v20 := Tryz.zeroValue20
  t21 := Tryz.underlying21
  a21 := Tryz.isAgg21
  z21 := Tryz.sizeOf21
  v21 := Tryz.zeroValue21
  t37 := Tryz.underlying32
  a37 := Tryz.isAgg32
  z37 := Tryz.sizeOf32
  v37 := Tryz.zeroValue32
  t46 := Tryz.underlying216
  a46 := Tryz.isAgg216
  z46 := Tryz.sizeOf216
  v46 := Tryz.zeroValue216
  t51 := Tryz.underlying225
  a51 := Tryz.isAgg225
  z51 := Tryz.sizeOf225
  v51 := Tryz.zeroValue225
  t53 := Tryz.underlying209
  a53 := Tryz.isAgg209
  z53 := Tryz.sizeOf209
  v53 := Tryz.zeroValue209
  t75 := Tryz.underlying30
  a75 := Tryz.isAgg30
  z75 := Tryz.sizeOf30
  v75 := Tryz.zeroValue30
  t85 := Tryz.underlying231
  a85 := Tryz.isAgg231
  z85 := Tryz.sizeOf231
  v85 := Tryz.zeroValue231
  t127 := Tryz.underlying155
  a127 := Tryz.isAgg155
  z127 := Tryz.sizeOf155
  v127 := Tryz.zeroValue155
  t143 := Tryz.underlying246
  a143 := Tryz.isAgg246
  z143 := Tryz.sizeOf246
  v143 := Tryz.zeroValue246
  t145 := Tryz.underlying248
  a145 := Tryz.isAgg248
  z145 := Tryz.sizeOf248
  v145 := Tryz.zeroValue248
  t167 := Tryz.underlying233
  a167 := Tryz.isAgg233
  z167 := Tryz.sizeOf233
  v167 := Tryz.zeroValue233
  t168 := Tryz.underlying234
  a168 := Tryz.isAgg234
  z168 := Tryz.sizeOf234
  v168 := Tryz.zeroValue234
  t171 := Tryz.underlying208
  a171 := Tryz.isAgg208
  z171 := Tryz.sizeOf208
  v171 := Tryz.zeroValue208
  t173 := Tryz.underlying212
  a173 := Tryz.isAgg212
  z173 := Tryz.sizeOf212
  v173 := Tryz.zeroValue212
  t175 := Tryz.underlying238
  a175 := Tryz.isAgg238
  z175 := Tryz.sizeOf238
  v175 := Tryz.zeroValue238
  t210 := Tryz.underlying241
  a210 := Tryz.isAgg241
  z210 := Tryz.sizeOf241
  v210 := Tryz.zeroValue241
  t212 := Tryz.underlying224
  a212 := Tryz.isAgg224
  z212 := Tryz.sizeOf224
  v212 := Tryz.zeroValue224
  t213 := Tryz.underlying226
  a213 := Tryz.isAgg226
  z213 := Tryz.sizeOf226
  t232 := Tryz.underlying243
  a232 := Tryz.isAgg243
  z232 := Tryz.sizeOf243
  v232 := Tryz.zeroValue243
  t233 := Tryz.underlying244
  a233 := Tryz.isAgg244
  z233 := Tryz.sizeOf244
  v233 := Tryz.zeroValue244
  g15 := by kernel_rfl
  g16 := by kernel_rfl
  g17 := by kernel_rfl
  g18 := by kernel_rfl
  g19 := by kernel_rfl
  t80 := Tryz.underlying115
  a80 := Tryz.isAgg115
  z80 := Tryz.sizeOf115
  v80 := Tryz.zeroValue115
  i0 := by kernel_rfl
  i2 := by kernel_rfl
  i3 := by kernel_rfl
  i4 := by kernel_rfl
  i5 := by kernel_rfl
  i9 := by kernel_rfl
  i20 := by kernel_rfl
  i21 := by kernel_rfl
  i37 := by kernel_rfl
  i46 := by kernel_rfl
  i51 := by kernel_rfl
  i53 := by kernel_rfl
  i75 := by kernel_rfl
  i80 := by kernel_rfl
  i85 := by kernel_rfl
  i127 := by kernel_rfl
  i143 := by kernel_rfl
  i145 := by kernel_rfl
  i167 := by kernel_rfl
  i168 := by kernel_rfl
  i171 := by kernel_rfl
  i173 := by kernel_rfl
  i175 := by kernel_rfl
  i210 := by kernel_rfl
  i212 := by kernel_rfl
  i232 := by kernel_rfl
  i233 := by kernel_rfl
  m15 := by kernel_rfl
  m16 := by kernel_rfl
  m17 := by kernel_rfl
  m18 := by kernel_rfl
  m19 := by kernel_rfl
  c0 := by kernel_rfl
  c2 := by kernel_rfl
  c3 := by kernel_rfl
  c4 := by kernel_rfl
  c5 := by kernel_rfl
  c9 := by kernel_rfl
  c20 := by kernel_rfl
  c21 := by kernel_rfl
  c37 := by kernel_rfl
  c46 := by kernel_rfl
  c51 := by kernel_rfl
  c53 := by kernel_rfl
  c75 := by kernel_rfl
  c80 := by kernel_rfl
  c85 := by kernel_rfl
  c127 := by kernel_rfl
  c143 := by kernel_rfl
  c145 := by kernel_rfl
  c167 := by kernel_rfl
  c168 := by kernel_rfl
  c171 := by kernel_rfl
  c173 := by kernel_rfl
  c175 := by kernel_rfl
  c210 := by kernel_rfl
  c212 := by kernel_rfl
  c213 := by kernel_rfl
  c232 := by kernel_rfl
  c233 := by kernel_rfl }
open Go.RowKit in
/-- strconv.ParseInt(s, 10, 64), AT EVERY STRING THAT SPELLS AN int64 ('Lib.parseIntB 64 s.data.toList = .ok v'): v, AND NO ERROR. (LAID: no walk: one application.) -/
theorem Tryz.strconv_ParseInt_10_at64_ok (s : ByteArray) (hmax : s.size ≤ 9223372036854775806) (v : Int) (h : Lib.parseIntB 64 s.data.toList = .ok v) (w : World) :
    Calls Tryz.prog 143 #[.string s, .int .i64 10, .int .i64 64] w fun e w' => e = .returned (.tuple #[.int .i64 v, .nilIface]) ∧ (w' = w ∨ ∃ t, w' = Lib.bytesWorld w 5 t) := Any.strconv_ParseInt_10_at64_ok Tryz.laysC174 s hmax v h w
open Go.RowKit in
theorem Tryz.strconv_ParseInt_10_at64_syntax_var (s : ByteArray) (hlim : s.size ≤ 281474976710656) (h : Lib.parseIntB 64 s.data.toList = .«syntax») (tp : TypeId) (p : Value) (w : World) (hvar : w.var? Tryz.prog "strconv.ErrSyntax" = some #[.iface tp p]) :
    Calls Tryz.prog 143 #[.string s, .int .i64 10, .int .i64 64] w fun e w' => ∃ N, e = .returned (.tuple #[.int .i64 (0), .iface 234 (.pointer (some ⟨N, 0, none⟩))]) ∧ w.heap.size ≤ N ∧ w'.heap[N]? = some (.cells #[.string ⟨#[80, 97, 114, 115, 101, 73, 110, 116]⟩, .string s, .iface tp p] 241 (0, 0)) ∧ Below w.heap.size w w' := Any.strconv_ParseInt_10_at64_syntax_var Tryz.laysC174 s hlim h tp p w hvar
open Go.RowKit in
theorem Tryz.strconv_ParseInt_10_at64_range_var (s : ByteArray) (hlim : s.size ≤ 281474976710656) (h : Lib.parseIntB 64 s.data.toList = .range) (tp : TypeId) (p : Value) (w : World) (hvar : w.var? Tryz.prog "strconv.ErrRange" = some #[.iface tp p]) :
    Calls Tryz.prog 143 #[.string s, .int .i64 10, .int .i64 64] w fun e w' => ∃ N, e = .returned (.tuple #[.int .i64 (Lib.intSat 64 s.data.toList), .iface 234 (.pointer (some ⟨N, 0, none⟩))]) ∧ w.heap.size ≤ N ∧ w'.heap[N]? = some (.cells #[.string ⟨#[80, 97, 114, 115, 101, 73, 110, 116]⟩, .string s, .iface tp p] 241 (0, 0)) ∧ Below w.heap.size w w' := Any.strconv_ParseInt_10_at64_range_var Tryz.laysC174 s hlim h tp p w hvar
def Tryz.lays217_ren : Go.Shelf.Ren := ⟨fun | 217 => 123 | 266 => 140 | n => n, fun | 9 => 9 | 5 => 5 | 3 => 3 | n => n, fun | n => n⟩
def Tryz.lays224_ren : Go.Shelf.Ren := ⟨fun | 224 => 125 | n => n, fun | 3 => 3 | n => n, fun | n => n⟩
def Tryz.lays314_ren : Go.Shelf.Ren := ⟨fun | 314 => 141 | n => n, fun | 9 => 9 | 51 => 225 | 3 => 3 | 4 => 4 | 5 => 5 | 46 => 216 | n => n, fun | n => n⟩
def Tryz.lays267_ren : Go.Shelf.Ren := ⟨fun | 267 => 126 | 314 => 141 | n => n, fun | 9 => 9 | 3 => 3 | 146 => 228 | 51 => 225 | 4 => 4 | 5 => 5 | 46 => 216 | n => n, fun | n => n⟩
def Tryz.lays219_ren : Go.Shelf.Ren := ⟨fun | 219 => 106 | 217 => 123 | 225 => 124 | 224 => 125 | 267 => 126 | 266 => 140 | 314 => 141 | n => n, fun | 9 => 9 | 3 => 3 | 4 => 4 | 5 => 5 | 46 => 216 | 146 => 228 | 51 => 225 | n => n, fun | 1 => 1 | n => n⟩
def Tryz.lays143_ren : Go.Shelf.Ren := ⟨fun | 143 => 87 | 219 => 106 | 217 => 123 | 225 => 124 | 224 => 125 | 267 => 126 | 266 => 140 | 314 => 141 | n => n, fun | 9 => 9 | 3 => 3 | 4 => 4 | 5 => 5 | 46 => 216 | 146 => 228 | 51 => 225 | n => n, fun | 1 => 1 | n => n⟩
def Tryz.lays144_ren : Go.Shelf.Ren := ⟨fun | 144 => 58 | 143 => 87 | 219 => 106 | 217 => 123 | 225 => 124 | 224 => 125 | 267 => 126 | 266 => 140 | 314 => 141 | n => n, fun | 9 => 9 | 4 => 4 | 3 => 3 | 5 => 5 | 46 => 216 | 146 => 228 | 51 => 225 | n => n, fun | 1 => 1 | n => n⟩
theorem Tryz.lays144 : Go.Proofs.Lays.n144 Tryz.prog Tryz.lays144_ren := {
  mixed := by kernel_rfl
  f143 := Tryz.func87.trans (congrArg some (by kernel_rfl))
  f144 := Tryz.func58.trans (congrArg some (by kernel_rfl))
  f217 := Tryz.func123.trans (congrArg some (by kernel_rfl))
  f219 := Tryz.func106.trans (congrArg some (by kernel_rfl))
  f224 := Tryz.func125.trans (congrArg some (by kernel_rfl))
  f225 := Tryz.func124.trans (congrArg some (by kernel_rfl))
  f266 := Tryz.func140.trans (congrArg some (by kernel_rfl))
  f267 := Tryz.func126.trans (congrArg some (by kernel_rfl))
  f314 := Tryz.func141.trans (congrArg some (by kernel_rfl))
  t3 := Tryz.underlying3
  a3 := Tryz.isAgg3
  z3 := Tryz.sizeOf3
  v3 := Tryz.zeroValue3
  t4 := Tryz.underlying4
  a4 := Tryz.isAgg4
  z4 := Tryz.sizeOf4
  v4 := Tryz.zeroValue4
  t5 := Tryz.underlying5
  a5 := Tryz.isAgg5
  z5 := Tryz.sizeOf5
  v5 := Tryz.zeroValue5
  t9 := Tryz.underlying9
  a9 := Tryz.isAgg9
  z9 := Tryz.sizeOf9
  v9 := Tryz.zeroValue9
  t46 := Tryz.underlying216
  a46 := Tryz.isAgg216
  z46 := Tryz.sizeOf216
  v46 := Tryz.zeroValue216
  t51 := Tryz.underlying225
  a51 := Tryz.isAgg225
  z51 := Tryz.sizeOf225
  v51 := Tryz.zeroValue225
  t146 := Tryz.underlying228
  a146 := Tryz.isAgg228
  z146 := Tryz.sizeOf228
  v146 := Tryz.zeroValue228
  g1 := by kernel_rfl }
open Go.RowKit Go.Lib in
/-- strings.Contains: "Contains reports whether substr is within s.": AT A substr OF ONE BYTE c: IT RETURNS 'decide (0 ≤ Lib.indexByte s c)'; the world is as it was. (LAID: no walk: one application.) -/
theorem Tryz.strings_Contains_one (s : ByteArray) (c : UInt8) (w : World) :
    Calls Tryz.prog 58 #[.string s, .string ⟨#[c]⟩] w fun e w' => e = .returned (.bool (decide (0 ≤ Lib.indexByte s.data.toList c))) ∧ w' = w := Any.strings_Contains_one Tryz.lays144 s c w
open Go.RowKit Go.Lib in
/-- strings.Contains: "Contains reports whether substr is within s.": IT RETURNS 'Lib.contains s substr'; the world is as it was. (LAID: no walk: one application.) -/
theorem Tryz.strings_Contains (s sub : ByteArray) (m : Int) (w : World) (hs : s.size < 4294967281) (hm : w.cell? ⟨1, 0, none⟩ = some (.int .i64 m)) :
    Calls Tryz.prog 58 #[.string s, .string sub] w fun e w' => e = .returned (.bool (Lib.contains s.data.toList sub.data.toList)) ∧ w' = w := Any.strings_Contains Tryz.lays144 s sub m w hs hm
def Tryz.lays220_ren : Go.Shelf.Ren := ⟨fun | 220 => 96 | 219 => 106 | 217 => 123 | 225 => 124 | 224 => 125 | 267 => 126 | 266 => 140 | 314 => 141 | n => n, fun | 9 => 9 | 4 => 4 | 3 => 3 | 5 => 5 | 46 => 216 | 146 => 228 | 51 => 225 | n => n, fun | 1 => 1 | n => n⟩
def Tryz.lays145_ren : Go.Shelf.Ren := ⟨fun | 145 => 66 | 220 => 96 | 219 => 106 | 217 => 123 | 225 => 124 | 224 => 125 | 267 => 126 | 266 => 140 | 314 => 141 | n => n, fun | 9 => 9 | 4 => 4 | 59 => 140 | 3 => 3 | 5 => 5 | 46 => 216 | 146 => 228 | 51 => 225 | n => n, fun | 1 => 1 | n => n⟩
theorem Tryz.lays145 : Go.Proofs.Lays.n145 Tryz.prog Tryz.lays145_ren := {
  mixed := by kernel_rfl
  f145 := Tryz.func66.trans (congrArg some (by kernel_rfl))
  f217 := Tryz.func123.trans (congrArg some (by kernel_rfl))
  f219 := Tryz.func106.trans (congrArg some (by kernel_rfl))
  f220 := Tryz.func96.trans (congrArg some (by kernel_rfl))
  f224 := Tryz.func125.trans (congrArg some (by kernel_rfl))
  f225 := Tryz.func124.trans (congrArg some (by kernel_rfl))
  f266 := Tryz.func140.trans (congrArg some (by kernel_rfl))
  f267 := Tryz.func126.trans (congrArg some (by kernel_rfl))
  f314 := Tryz.func141.trans (congrArg some (by kernel_rfl))
  t3 := Tryz.underlying3
  a3 := Tryz.isAgg3
  z3 := Tryz.sizeOf3
  v3 := Tryz.zeroValue3
  t4 := Tryz.underlying4
  a4 := Tryz.isAgg4
  z4 := Tryz.sizeOf4
  v4 := Tryz.zeroValue4
  t5 := Tryz.underlying5
  a5 := Tryz.isAgg5
  z5 := Tryz.sizeOf5
  v5 := Tryz.zeroValue5
  t9 := Tryz.underlying9
  a9 := Tryz.isAgg9
  z9 := Tryz.sizeOf9
  v9 := Tryz.zeroValue9
  t46 := Tryz.underlying216
  a46 := Tryz.isAgg216
  z46 := Tryz.sizeOf216
  v46 := Tryz.zeroValue216
  t51 := Tryz.underlying225
  a51 := Tryz.isAgg225
  z51 := Tryz.sizeOf225
  v51 := Tryz.zeroValue225
  t59 := Tryz.underlying140
  a59 := Tryz.isAgg140
  z59 := Tryz.sizeOf140
  v59 := Tryz.zeroValue140
  t146 := Tryz.underlying228
  a146 := Tryz.isAgg228
  z146 := Tryz.sizeOf228
  v146 := Tryz.zeroValue228
  g1 := by kernel_rfl }
open Go.RowKit Go.Lib in
/-- strings.Cut: "Cut slices s around the first instance of sep, returning the text before and after sep. The found result reports whether sep appears in s. If sep does not appear in s, cut returns s, "", false.": IT RETURNS 'Lib.cut s sep'; the world is as it was but for the count of draws. (LAID: no walk: one application.) -/
theorem Tryz.strings_Cut (s sep : ByteArray) (m : Int) (w : World) (hs : s.size < 4294967281) (hm : w.cell? ⟨1, 0, none⟩ = some (.int .i64 m)) :
    Calls Tryz.prog 66 #[.string s, .string sep] w fun e w' => e = .returned (.tuple #[.string ⟨(Lib.cut s.data.toList sep.data.toList).1.toArray⟩, .string ⟨(Lib.cut s.data.toList sep.data.toList).2.1.toArray⟩, .bool (Lib.cut s.data.toList sep.data.toList).2.2]) ∧ ∃ n, w' = w.drewN n := Any.strings_Cut Tryz.lays145 s sep m w hs hm
def Tryz.laysM219_ren : Go.Shelf.Ren := ⟨fun | 219 => 106 | 217 => 123 | 225 => 124 | 224 => 125 | 267 => 126 | 266 => 140 | 314 => 141 | n => n, fun | 9 => 9 | 3 => 3 | 4 => 4 | 5 => 5 | 46 => 216 | 146 => 228 | 51 => 225 | n => n, fun | 1 => 1 | n => n⟩
def Tryz.laysM143_ren : Go.Shelf.Ren := ⟨fun | 143 => 87 | 219 => 106 | 217 => 123 | 225 => 124 | 224 => 125 | 267 => 126 | 266 => 140 | 314 => 141 | n => n, fun | 9 => 9 | 3 => 3 | 4 => 4 | 5 => 5 | 46 => 216 | 146 => 228 | 51 => 225 | n => n, fun | 1 => 1 | n => n⟩
def Tryz.laysM144_ren : Go.Shelf.Ren := ⟨fun | 144 => 58 | 143 => 87 | 219 => 106 | 217 => 123 | 225 => 124 | 224 => 125 | 267 => 126 | 266 => 140 | 314 => 141 | n => n, fun | 9 => 9 | 4 => 4 | 3 => 3 | 5 => 5 | 46 => 216 | 146 => 228 | 51 => 225 | n => n, fun | 1 => 1 | n => n⟩
def Tryz.laysM220_ren : Go.Shelf.Ren := ⟨fun | 220 => 96 | 219 => 106 | 217 => 123 | 225 => 124 | 224 => 125 | 267 => 126 | 266 => 140 | 314 => 141 | n => n, fun | 9 => 9 | 4 => 4 | 3 => 3 | 5 => 5 | 46 => 216 | 146 => 228 | 51 => 225 | n => n, fun | 1 => 1 | n => n⟩
def Tryz.laysM145_ren : Go.Shelf.Ren := ⟨fun | 145 => 66 | 220 => 96 | 219 => 106 | 217 => 123 | 225 => 124 | 224 => 125 | 267 => 126 | 266 => 140 | 314 => 141 | n => n, fun | 9 => 9 | 4 => 4 | 59 => 140 | 3 => 3 | 5 => 5 | 46 => 216 | 146 => 228 | 51 => 225 | n => n, fun | 1 => 1 | n => n⟩
def Tryz.lays207_ren : Go.Shelf.Ren := ⟨fun | 207 => 130 | n => n, fun | 9 => 9 | 4 => 4 | 3 => 3 | n => n, fun | n => n⟩
def Tryz.lays100_ren : Go.Shelf.Ren := ⟨fun | 100 => 112 | 207 => 130 | n => n, fun | 9 => 9 | 4 => 4 | 3 => 3 | n => n, fun | n => n⟩
theorem Tryz.lays100 : Go.Proofs.Lays.n100 Tryz.prog Tryz.lays100_ren := {
  mixed := by kernel_rfl
  f100 := Tryz.func112.trans (congrArg some (by kernel_rfl))
  f207 := Tryz.func130.trans (congrArg some (by kernel_rfl))
  t3 := Tryz.underlying3
  a3 := Tryz.isAgg3
  z3 := Tryz.sizeOf3
  v3 := Tryz.zeroValue3
  t4 := Tryz.underlying4
  a4 := Tryz.isAgg4
  z4 := Tryz.sizeOf4
  v4 := Tryz.zeroValue4
  t9 := Tryz.underlying9
  a9 := Tryz.isAgg9
  z9 := Tryz.sizeOf9
  v9 := Tryz.zeroValue9 }
open Go.RowKit Go.Lib in
/-- strings.HasSuffix: "HasSuffix reports whether the string s ends with suffix.": IT RETURNS 'Lib.hasSuffix s suffix'; the world is as it was. ('hs': no Go string is longer: a caller has it of every string that it was handed.) (LAID: no walk: one application.) -/
theorem Tryz.strings_HasSuffix (s p : ByteArray) (w : World) (hs : s.size ≤ 9223372036854775807) :
    Calls Tryz.prog 112 #[.string s, .string p] w fun e w' => e = .returned (.bool (Lib.hasSuffix s.data.toList p.data.toList)) ∧ w' = w := Any.strings_HasSuffix Tryz.lays100 s p w hs
def Tryz.lays152_ren : Go.Shelf.Ren := ⟨fun | 152 => 115 | 137 => 133 | 119 => 134 | 224 => 125 | 225 => 124 | 217 => 123 | 266 => 140 | n => n, fun | 9 => 9 | 21 => 21 | 3 => 3 | 4 => 4 | 5 => 5 | 0 => 0 | 46 => 216 | n => n, fun | n => n⟩
theorem Tryz.lays152 : Go.Proofs.Lays.n152 Tryz.prog Tryz.lays152_ren := {
  mixed := by kernel_rfl
  f119 := Tryz.func134.trans (congrArg some (by kernel_rfl))
  f137 := Tryz.func133.trans (congrArg some (by kernel_rfl))
  f152 := Tryz.func115.trans (congrArg some (by kernel_rfl))
  f217 := Tryz.func123.trans (congrArg some (by kernel_rfl))
  f224 := Tryz.func125.trans (congrArg some (by kernel_rfl))
  f225 := Tryz.func124.trans (congrArg some (by kernel_rfl))
  f266 := Tryz.func140.trans (congrArg some (by kernel_rfl))
  t0 := Tryz.underlying0
  a0 := Tryz.isAgg0
  z0 := Tryz.sizeOf0
  v0 := Tryz.zeroValue0
  t3 := Tryz.underlying3
  a3 := Tryz.isAgg3
  z3 := Tryz.sizeOf3
  v3 := Tryz.zeroValue3
  t4 := Tryz.underlying4
  a4 := Tryz.isAgg4
  z4 := Tryz.sizeOf4
  v4 := Tryz.zeroValue4
  t5 := Tryz.underlying5
  a5 := Tryz.isAgg5
  z5 := Tryz.sizeOf5
  v5 := Tryz.zeroValue5
  t9 := Tryz.underlying9
  a9 := Tryz.isAgg9
  z9 := Tryz.sizeOf9
  v9 := Tryz.zeroValue9
  t21 := Tryz.underlying21
  a21 := Tryz.isAgg21
  z21 := Tryz.sizeOf21
  v21 := Tryz.zeroValue21
  t46 := Tryz.underlying216
  a46 := Tryz.isAgg216
  z46 := Tryz.sizeOf216
  v46 := Tryz.zeroValue216 }
open Go.RowKit Go.Lib in
theorem Tryz.strings_IndexRune_ascii (s : ByteArray) (r : Int) (w : World) (h0 : 0 ≤ r) (h1 : r < 128) :
    Calls Tryz.prog 115 #[.string s, .int .i32 r] w fun e w' => e = .returned (.int .i64 (Lib.indexByte s.data.toList r.toNat.toUInt8)) ∧ w' = w := Any.strings_IndexRune_ascii Tryz.lays152 s r w h0 h1
def Tryz.lays226_ren : Go.Shelf.Ren := ⟨fun | 226 => 116 | n => n, fun | 3 => 3 | 4 => 4 | n => n, fun | n => n⟩
theorem Tryz.lays226 : Go.Proofs.Lays.n226 Tryz.prog Tryz.lays226_ren := {
  mixed := by kernel_rfl
  f226 := Tryz.func116.trans (congrArg some (by kernel_rfl))
  t3 := Tryz.underlying3
  a3 := Tryz.isAgg3
  z3 := Tryz.sizeOf3
  v3 := Tryz.zeroValue3
  t4 := Tryz.underlying4
  a4 := Tryz.isAgg4
  z4 := Tryz.sizeOf4
  v4 := Tryz.zeroValue4 }
open Go.RowKit Go.Lib in
theorem Tryz.strings_shouldUseASCIISet (n : Int) (w : World) :
    Calls Tryz.prog 116 #[.int .i64 n] w fun e w' => e = .returned (.bool (decide (8 < n))) ∧ w' = w := Any.strings_shouldUseASCIISet Tryz.lays226 n w
def Tryz.lays153_ren : Go.Shelf.Ren := ⟨fun | 153 => 103 | 152 => 115 | 226 => 116 | 227 => 117 | 228 => 118 | 137 => 133 | 119 => 134 | 224 => 125 | 225 => 124 | 217 => 123 | 266 => 140 | n => n, fun | 9 => 9 | 3 => 3 | 4 => 4 | 5 => 5 | 21 => 21 | 117 => 205 | 116 => 204 | 0 => 0 | 46 => 216 | 124 => 222 | n => n, fun | n => n⟩
theorem Tryz.lays153 : Go.Proofs.Lays.n153 Tryz.prog Tryz.lays153_ren := {
  mixed := by kernel_rfl
  f119 := Tryz.func134.trans (congrArg some (by kernel_rfl))
  f137 := Tryz.func133.trans (congrArg some (by kernel_rfl))
  f152 := Tryz.func115.trans (congrArg some (by kernel_rfl))
  f153 := Tryz.func103.trans (congrArg some (by kernel_rfl))
  f217 := Tryz.func123.trans (congrArg some (by kernel_rfl))
  f224 := Tryz.func125.trans (congrArg some (by kernel_rfl))
  f225 := Tryz.func124.trans (congrArg some (by kernel_rfl))
  f226 := Tryz.func116.trans (congrArg some (by kernel_rfl))
  f227 := Tryz.func117.trans (congrArg some (by kernel_rfl))
  f228 := Tryz.func118.trans (congrArg some (by kernel_rfl))
  f266 := Tryz.func140.trans (congrArg some (by kernel_rfl))
  t0 := Tryz.underlying0
  a0 := Tryz.isAgg0
  z0 := Tryz.sizeOf0
  v0 := Tryz.zeroValue0
  t3 := Tryz.underlying3
  a3 := Tryz.isAgg3
  z3 := Tryz.sizeOf3
  v3 := Tryz.zeroValue3
  t4 := Tryz.underlying4
  a4 := Tryz.isAgg4
  z4 := Tryz.sizeOf4
  v4 := Tryz.zeroValue4
  t5 := Tryz.underlying5
  a5 := Tryz.isAgg5
  z5 := Tryz.sizeOf5
  v5 := Tryz.zeroValue5
  t9 := Tryz.underlying9
  a9 := Tryz.isAgg9
  z9 := Tryz.sizeOf9
  v9 := Tryz.zeroValue9
  t21 := Tryz.underlying21
  a21 := Tryz.isAgg21
  z21 := Tryz.sizeOf21
  v21 := Tryz.zeroValue21
  t46 := Tryz.underlying216
  a46 := Tryz.isAgg216
  z46 := Tryz.sizeOf216
  v46 := Tryz.zeroValue216
  t116 := Tryz.underlying204
  a116 := Tryz.isAgg204
  z116 := Tryz.sizeOf204
  t117 := Tryz.underlying205
  a117 := Tryz.isAgg205
  z117 := Tryz.sizeOf205
  v117 := Tryz.zeroValue205
  t124 := Tryz.underlying222
  a124 := Tryz.isAgg222
  z124 := Tryz.sizeOf222
  v124 := Tryz.zeroValue222 }
def Tryz.lays227_ren : Go.Shelf.Ren := ⟨fun | 227 => 117 | n => n, fun | 9 => 9 | 116 => 204 | 4 => 4 | 0 => 0 | 3 => 3 | 5 => 5 | n => n, fun | n => n⟩
def Tryz.lays228_ren : Go.Shelf.Ren := ⟨fun | 228 => 118 | n => n, fun | 124 => 222 | 5 => 5 | 4 => 4 | 0 => 0 | 116 => 204 | n => n, fun | n => n⟩
open Go.RowKit Go.Lib in
theorem Tryz.strings_IndexAny_long (hv116 : ∀ w, (zeroValue 204).run Tryz.prog w = .ok (.agg (Array.replicate 256 (.bool false))) w) (s chars : ByteArray) (w : World) (h2 : 2 ≤ chars.size) (h8 : 8 < s.size) (hs : s.size < 4294967281) (hcs : chars.size < 4294967281) (hascii : ∀ (j : Nat) b, chars.data.toList[j]? = some b → b.toNat < 128) :
    Calls Tryz.prog 103 #[.string s, .string chars] w fun e w' => e = .returned (.int .i64 (Lib.indexAny s.data.toList chars.data.toList)) ∧ w' = ((w.alloc (.cells (Lib.setCells chars.data.toList) 204)).alloc (.cells (Lib.setCells chars.data.toList) 204)) := Any.strings_IndexAny_long Tryz.lays153 hv116 (by kernel_rfl) s chars w h2 h8 hs hcs hascii
def Tryz.lays150_ren : Go.Shelf.Ren := ⟨fun | 150 => 78 | 153 => 103 | 152 => 115 | 226 => 116 | 227 => 117 | 228 => 118 | 137 => 133 | 119 => 134 | 224 => 125 | 225 => 124 | 217 => 123 | 266 => 140 | n => n, fun | 9 => 9 | 4 => 4 | 3 => 3 | 5 => 5 | 21 => 21 | 117 => 205 | 116 => 204 | 0 => 0 | 46 => 216 | 124 => 222 | n => n, fun | n => n⟩
end Go.Proofs
