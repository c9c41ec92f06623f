/-
  DERIVED: THE SHELF's CONTRACTS AT THIS DUMP, IN PLAIN WORDS (tools/lay-plain.mjs out of 'TrydShelf.lean', which tools/lay-shelf.mjs wrote): THE SAME DECLARATIONS UNDER THE SAME NAMES: 'import', 'namespace', 'open', 'def', 'theorem' AND NOTHING ELSE: no command of the shelf's: FOR A HAND-IN. Each laying: the table of numbers ('.._ren') and one theorem, a field a fact of the dump's own or the kernel's comparison; each contract: ONE APPLICATION.
-/
import Derived.Shelf.Strings.Builder1
import Derived.Shelf.Strings.Builder2
import Derived.Shelf.Strings.OnBuilder
import Derived.Shelf.Strings.Trim
import Derived.Shelf.Small.Utf8
import Derived.Shelf.Small.Bits
import Derived.Shelf.Small.Strs
import Derived.Shelf.Strings.BuilderF
import Derived.Shelf.Strings.BuilderK
import Derived.Shelf.Strings.Builder2Cap
import Derived.Shelf.Strconv.Atoi
import Derived.Shelf.Strconv.Itoa0
import Derived.Shelf.Strconv.Itoa1
import Derived.Shelf.LaysM
import Derived.Shelf.Strconv.Itoa2
import Derived.Shelf.Strconv.Itoa3
import Derived.Shelf.Strconv.AtoiErrFast
import Derived.Shelf.Strconv.ParseIntEmpty
import Derived.Shelf.Strconv.AtoiFail
import Derived.Shelf.Strconv.Clone
import Derived.Shelf.Strconv.SyntaxError
import Derived.Shelf.LaysC
import Derived.Shelf.Strconv.ToError
import Derived.Shelf.Strconv.Lower
import Derived.Shelf.Strconv.ParseUint10
import Derived.Shelf.Strconv.ParseUint10Empty
import Derived.Shelf.Strconv.ParseUint10Any
import Derived.Shelf.Strconv.ParseInt10
import Derived.Shelf.Strconv.AtoiLong
import Derived.Shelf.Strconv.AtoiInnerAll
import Derived.Shelf.Strconv.RangeError
import Derived.Shelf.Strconv.ToErrorRange
import Derived.Shelf.Strconv.AtoiAll
import Derived.Shelf.Strings.Search1
import Derived.Shelf.Strings.Search2
import Derived.Shelf.Strings.Search3
import Derived.Shelf.Strings.Cut
import Derived.Shelf.Strings.Shaped
import Derived.Shelf.Strings.Prefix
import Derived.Shelf.Unicode.Decode
import Derived.Shelf.Strings.Runes
import Derived.Shelf.Strings.AsciiSet
import Derived.Shelf.Bits.Mul64
import Derived.Shelf.Strings.Repeat
import Derived.Shelf.Unicode.DecodeSlow
import Derived.Shelf.Unicode.DecodeAny
import Derived.Shelf.Unicode.DecodeLast
import Derived.Shelf.Strings.BuilderCap
import Derived.Test.YtcgkfgklggjmaaaDoorProg
namespace Go.Proofs
open Go.Shelf
def Tryd.lays156_ren : Go.Shelf.Ren := ⟨fun | 156 => 76 | 165 => 114 | 166 => 74 | 169 => 47 | 240 => 111 | 241 => 143 | 276 => 140 | 277 => 162 | n => n, fun | 31 => 79 | 9 => 9 | 3 => 3 | 4 => 4 | 0 => 0 | 20 => 20 | 72 => 88 | 76 => 133 | 70 => 85 | 37 => 86 | 75 => 132 | 127 => 139 | 164 => 185 | 5 => 5 | 80 => 93 | n => n, fun | n => n⟩
theorem Tryd.lays156 : Go.Proofs.Lays.n156 Tryd.prog Tryd.lays156_ren := {
  mixed := by kernel_rfl
  f156 := Tryd.func76.trans (congrArg some (by kernel_rfl))
  f165 := Tryd.func114.trans (congrArg some (by kernel_rfl))
  f166 := Tryd.func74.trans (congrArg some (by kernel_rfl))
  f169 := Tryd.func47.trans (congrArg some (by kernel_rfl))
  f240 := Tryd.func111.trans (congrArg some (by kernel_rfl))
  f241 := Tryd.func143.trans (congrArg some (by kernel_rfl))
  f276 := Tryd.func140.trans (congrArg some (by kernel_rfl))
  f277 := Tryd.func162.trans (congrArg some (by kernel_rfl))
  t0 := Tryd.underlying0
  a0 := Tryd.isAgg0
  z0 := Tryd.sizeOf0
  v0 := Tryd.zeroValue0
  t3 := Tryd.underlying3
  a3 := Tryd.isAgg3
  z3 := Tryd.sizeOf3
  v3 := Tryd.zeroValue3
  t4 := Tryd.underlying4
  a4 := Tryd.isAgg4
  z4 := Tryd.sizeOf4
  v4 := Tryd.zeroValue4
  t9 := Tryd.underlying9
  a9 := Tryd.isAgg9
  z9 := Tryd.sizeOf9
  v9 := Tryd.zeroValue9
  t20 := Tryd.underlying20
  a20 := Tryd.isAgg20
  z20 := Tryd.sizeOf20
  v20 := Tryd.zeroValue20
  t31 := Tryd.underlying79
  a31 := Tryd.isAgg79
  z31 := Tryd.sizeOf79
  v31 := Tryd.zeroValue79
  t37 := Tryd.underlying86
  a37 := Tryd.isAgg86
  z37 := Tryd.sizeOf86
  v37 := Tryd.zeroValue86
  t70 := Tryd.underlying85
  a70 := Tryd.isAgg85
  z70 := Tryd.sizeOf85
  v70 := Tryd.zeroValue85
  t72 := Tryd.underlying88
  a72 := Tryd.isAgg88
  z72 := Tryd.sizeOf88
  v72 := Tryd.zeroValue88
  t75 := Tryd.underlying132
  a75 := Tryd.isAgg132
  z75 := Tryd.sizeOf132
  v75 := Tryd.zeroValue132
  t76 := Tryd.underlying133
  a76 := Tryd.isAgg133
  z76 := Tryd.sizeOf133
  v76 := Tryd.zeroValue133
  t127 := Tryd.underlying139
  a127 := Tryd.isAgg139
  z127 := Tryd.sizeOf139
  v127 := Tryd.zeroValue139
  t164 := Tryd.underlying185
  a164 := Tryd.isAgg185
  z164 := Tryd.sizeOf185
  v164 := Tryd.zeroValue185 }
theorem Tryd.Builder_Extra_156 : Builder.Extra Tryd.prog Tryd.lays156_ren := {
  sizeBuilder := by kernel_rfl
  liesBuilder := by kernel_rfl
  t5 := Tryd.underlying5
  a5 := Tryd.isAgg5
  z5 := Tryd.sizeOf5
  v5 := Tryd.zeroValue5
  infoByte := by kernel_rfl
  cellsByte := by kernel_rfl
  sizeByte := by kernel_rfl
  neB5 := by decide }
open Go.RowKit in
/-- strings.Join: "Join concatenates the elements of its first argument to create a single string. The separator string sep is placed between elements in the resulting string.": HOWEVER MANY ELEMENTS. Below the heap's end the world is as it was. (LAID: no walk: one application.) -/
theorem Tryd.strings_Join (bk o c : Nat) (xs : List ByteArray) (sep : ByteArray) (w : World) (hcells : ∀ (j : Nat) x, xs[j]? = some x → w.cell? ⟨bk, o + j, none⟩ = some (.string x)) (hbk : bk < w.heap.size) (hN : xs.length ≤ 140737488355328) (hcap : xs.length ≤ c) (hlen : (Lib.join (xs.map (·.data.toList)) sep.data.toList).length ≤ 140737488355328) :
    Calls Tryd.prog 76 #[.slice (some ⟨bk, o, none⟩) xs.length c, .string sep] w fun e w' => e = .returned (.string ⟨(Lib.join (xs.map (·.data.toList)) sep.data.toList).toArray⟩) ∧ Below w.heap.size w w' := Any.strings_Join Tryd.lays156 Tryd.Builder_Extra_156 bk o c xs sep w hcells hbk hN hcap hlen
def Tryd.lays162_ren : Go.Shelf.Ren := ⟨fun | 162 => 146 | 232 => 163 | 227 => 164 | 234 => 165 | 236 => 166 | 228 => 174 | 271 => 175 | 151 => 176 | 120 => 185 | 197 => 186 | 152 => 187 | 260 => 192 | 137 => 119 | 119 => 193 | 224 => 178 | 225 => 177 | 217 => 147 | 266 => 167 | n => n, fun | 9 => 9 | 4 => 4 | 3 => 3 | 5 => 5 | 117 => 207 | 116 => 206 | 0 => 0 | 124 => 210 | 21 => 21 | 105 => 213 | 46 => 159 | 119 => 237 | 139 => 240 | 138 => 239 | n => n, fun | 3 => 8 | 4 => 9 | n => n⟩
theorem Tryd.lays162 : Go.Proofs.Lays.n162 Tryd.prog Tryd.lays162_ren := {
  mixed := by kernel_rfl
  f119 := Tryd.func193.trans (congrArg some (by kernel_rfl))
  f120 := Tryd.func185.trans (congrArg some (by kernel_rfl))
  f137 := Tryd.func119.trans (congrArg some (by kernel_rfl))
  f151 := Tryd.func176.trans (congrArg some (by kernel_rfl))
  f152 := Tryd.func187.trans (congrArg some (by kernel_rfl))
  f162 := Tryd.func146.trans (congrArg some (by kernel_rfl))
  f197 := Tryd.func186.trans (congrArg some (by kernel_rfl))
  f217 := Tryd.func147.trans (congrArg some (by kernel_rfl))
  f224 := Tryd.func178.trans (congrArg some (by kernel_rfl))
  f225 := Tryd.func177.trans (congrArg some (by kernel_rfl))
  f227 := Tryd.func164.trans (congrArg some (by kernel_rfl))
  f228 := Tryd.func174.trans (congrArg some (by kernel_rfl))
  f232 := Tryd.func163.trans (congrArg some (by kernel_rfl))
  f234 := Tryd.func165.trans (congrArg some (by kernel_rfl))
  f236 := Tryd.func166.trans (congrArg some (by kernel_rfl))
  f260 := Tryd.func192.trans (congrArg some (by kernel_rfl))
  f266 := Tryd.func167.trans (congrArg some (by kernel_rfl))
  f271 := Tryd.func175.trans (congrArg some (by kernel_rfl))
  t0 := Tryd.underlying0
  a0 := Tryd.isAgg0
  z0 := Tryd.sizeOf0
  v0 := Tryd.zeroValue0
  t3 := Tryd.underlying3
  a3 := Tryd.isAgg3
  z3 := Tryd.sizeOf3
  v3 := Tryd.zeroValue3
  t4 := Tryd.underlying4
  a4 := Tryd.isAgg4
  z4 := Tryd.sizeOf4
  v4 := Tryd.zeroValue4
  t5 := Tryd.underlying5
  a5 := Tryd.isAgg5
  z5 := Tryd.sizeOf5
  v5 := Tryd.zeroValue5
  t9 := Tryd.underlying9
  a9 := Tryd.isAgg9
  z9 := Tryd.sizeOf9
  v9 := Tryd.zeroValue9
  t21 := Tryd.underlying21
  a21 := Tryd.isAgg21
  z21 := Tryd.sizeOf21
  v21 := Tryd.zeroValue21
  t46 := Tryd.underlying159
  a46 := Tryd.isAgg159
  z46 := Tryd.sizeOf159
  v46 := Tryd.zeroValue159
  t105 := Tryd.underlying213
  a105 := Tryd.isAgg213
  z105 := Tryd.sizeOf213
  v105 := Tryd.zeroValue213
  t116 := Tryd.underlying206
  a116 := Tryd.isAgg206
  z116 := Tryd.sizeOf206
  t117 := Tryd.underlying207
  a117 := Tryd.isAgg207
  z117 := Tryd.sizeOf207
  v117 := Tryd.zeroValue207
  t119 := Tryd.underlying237
  a119 := Tryd.isAgg237
  z119 := Tryd.sizeOf237
  t124 := Tryd.underlying210
  a124 := Tryd.isAgg210
  z124 := Tryd.sizeOf210
  v124 := Tryd.zeroValue210
  t138 := Tryd.underlying239
  a138 := Tryd.isAgg239
  z138 := Tryd.sizeOf239
  v138 := Tryd.zeroValue239
  t139 := Tryd.underlying240
  a139 := Tryd.isAgg240
  z139 := Tryd.sizeOf240
  v139 := Tryd.zeroValue240
  g3 := by kernel_rfl
  g4 := by kernel_rfl }
open Go.RowKit in
/-- strings.TrimRight: "TrimRight returns a slice of the string s, with all trailing Unicode code points contained in cutset removed.": AT A cutset OF ONE ASCII BYTE. The world is as it was. (LAID: no walk: one application.) -/
theorem Tryd.strings_TrimRight_one (s : ByteArray) (c : UInt8) (hc : c.toNat < 128) (w : World) (hs : s.size ≤ 9223372036854775807) :
    Calls Tryd.prog 146 #[.string s, .string ⟨#[c]⟩] w fun e w' => e = .returned (.string ⟨(Lib.trimRightB s.data.toList c).toArray⟩) ∧ w' = w := Any.strings_TrimRight_one Tryd.lays162 s c hc w hs
def Tryd.lays137_ren : Go.Shelf.Ren := ⟨fun | 137 => 119 | 217 => 147 | 266 => 167 | n => n, fun | 9 => 9 | 5 => 5 | 3 => 3 | n => n, fun | n => n⟩
theorem Tryd.lays137 : Go.Proofs.Lays.n137 Tryd.prog Tryd.lays137_ren := {
  mixed := by kernel_rfl
  f137 := Tryd.func119.trans (congrArg some (by kernel_rfl))
  f217 := Tryd.func147.trans (congrArg some (by kernel_rfl))
  f266 := Tryd.func167.trans (congrArg some (by kernel_rfl))
  t3 := Tryd.underlying3
  a3 := Tryd.isAgg3
  z3 := Tryd.sizeOf3
  v3 := Tryd.zeroValue3
  t5 := Tryd.underlying5
  a5 := Tryd.isAgg5
  z5 := Tryd.sizeOf5
  v5 := Tryd.zeroValue5
  t9 := Tryd.underlying9
  a9 := Tryd.isAgg9
  z9 := Tryd.sizeOf9
  v9 := Tryd.zeroValue9 }
open Go.RowKit in
/-- strings.IndexByte: "IndexByte returns the index of the first instance of c in s, or -1 if c is not present in s.": IT RETURNS 'Lib.indexByte s c'; the world is as it was. (LAID: no walk: one application.) -/
theorem Tryd.strings_IndexByte (s : ByteArray) (c : Int) (w : World) :
    Calls Tryd.prog 119 #[.string s, .int .u8 c] w fun e w' => e = .returned (.int .i64 (Lib.indexByte s.data.toList c.toNat.toUInt8)) ∧ w' = w := Any.strings_IndexByte Tryd.lays137 s c w
def Tryd.laysM171_ren : Go.Shelf.Ren := ⟨fun | 171 => 22 | 243 => 58 | 246 => 98 | 283 => 130 | 284 => 131 | 285 => 132 | 286 => 133 | 129 => 154 | 317 => 153 | 318 => 155 | 319 => 156 | 320 => 157 | 337 => 172 | 338 => 173 | n => n, fun | 3 => 3 | 9 => 9 | 2 => 2 | 4 => 4 | 171 => 173 | 0 => 0 | 53 => 151 | 37 => 86 | 5 => 5 | 173 => 176 | 212 => 197 | 51 => 187 | 20 => 20 | 213 => 198 | 46 => 159 | 232 => 222 | 233 => 223 | n => n, fun | 17 => 2 | 18 => 4 | 19 => 5 | n => n⟩
theorem Tryd.laysM171 : Go.Proofs.LaysM.n171 Tryd.prog Tryd.laysM171_ren := {
  mixed := by kernel_rfl
  f129 := Tryd.func154.trans (congrArg some (by kernel_rfl))
  f171 := Tryd.func22.trans (congrArg some (by kernel_rfl))
  f243 := Tryd.func58.trans (congrArg some (by kernel_rfl))
  f246 := Tryd.func98.trans (congrArg some (by kernel_rfl))
  f283 := Tryd.func130.trans (congrArg some (by kernel_rfl))
  f284 := Tryd.func131.trans (congrArg some (by kernel_rfl))
  f285 := Tryd.func132.trans (congrArg some (by kernel_rfl))
  f286 := Tryd.func133.trans (congrArg some (by kernel_rfl))
  f317 := Tryd.func153.trans (congrArg some (by kernel_rfl))
  f318 := Tryd.func155.trans (congrArg some (by kernel_rfl))
  f319 := Tryd.func156.trans (congrArg some (by kernel_rfl))
  f320 := Tryd.func157.trans (congrArg some (by kernel_rfl))
  f337 := Tryd.func172.trans (congrArg some (by kernel_rfl))
  f338 := Tryd.func173.trans (congrArg some (by kernel_rfl))
  t0 := Tryd.underlying0
  a0 := Tryd.isAgg0
  z0 := Tryd.sizeOf0
  v0 := Tryd.zeroValue0
  t2 := Tryd.underlying2
  a2 := Tryd.isAgg2
  z2 := Tryd.sizeOf2
  v2 := Tryd.zeroValue2
  t3 := Tryd.underlying3
  a3 := Tryd.isAgg3
  z3 := Tryd.sizeOf3
  v3 := Tryd.zeroValue3
  t4 := Tryd.underlying4
  a4 := Tryd.isAgg4
  z4 := Tryd.sizeOf4
  v4 := Tryd.zeroValue4
  t5 := Tryd.underlying5
  a5 := Tryd.isAgg5
  z5 := Tryd.sizeOf5
  v5 := Tryd.zeroValue5
  t9 := Tryd.underlying9
  a9 := Tryd.isAgg9
  z9 := Tryd.sizeOf9
  v9 := Tryd.zeroValue9
  t20 := Tryd.underlying20
  a20 := Tryd.isAgg20
  z20 := Tryd.sizeOf20
  v20 := Tryd.zeroValue20
  t37 := Tryd.underlying86
  a37 := Tryd.isAgg86
  z37 := Tryd.sizeOf86
  v37 := Tryd.zeroValue86
  t46 := Tryd.underlying159
  a46 := Tryd.isAgg159
  z46 := Tryd.sizeOf159
  v46 := Tryd.zeroValue159
  t51 := Tryd.underlying187
  a51 := Tryd.isAgg187
  z51 := Tryd.sizeOf187
  v51 := Tryd.zeroValue187
  t53 := Tryd.underlying151
  a53 := Tryd.isAgg151
  z53 := Tryd.sizeOf151
  v53 := Tryd.zeroValue151
  t171 := Tryd.underlying173
  a171 := Tryd.isAgg173
  z171 := Tryd.sizeOf173
  v171 := Tryd.zeroValue173
  t173 := Tryd.underlying176
  a173 := Tryd.isAgg176
  z173 := Tryd.sizeOf176
  v173 := Tryd.zeroValue176
  t212 := Tryd.underlying197
  a212 := Tryd.isAgg197
  z212 := Tryd.sizeOf197
  v212 := Tryd.zeroValue197
  t213 := Tryd.underlying198
  a213 := Tryd.isAgg198
  z213 := Tryd.sizeOf198
  t232 := Tryd.underlying222
  a232 := Tryd.isAgg222
  z232 := Tryd.sizeOf222
  v232 := Tryd.zeroValue222
  t233 := Tryd.underlying223
  a233 := Tryd.isAgg223
  z233 := Tryd.sizeOf223
  v233 := Tryd.zeroValue223
  g17 := by kernel_rfl
  g18 := by kernel_rfl
  g19 := by kernel_rfl
  i0 := by kernel_rfl
  i2 := by kernel_rfl
  i3 := by kernel_rfl
  i4 := by kernel_rfl
  i5 := by kernel_rfl
  i9 := by kernel_rfl
  i20 := by kernel_rfl
  i37 := by kernel_rfl
  i46 := by kernel_rfl
  i51 := by kernel_rfl
  i53 := by kernel_rfl
  i171 := by kernel_rfl
  i173 := by kernel_rfl
  i212 := by kernel_rfl
  i232 := by kernel_rfl
  i233 := by kernel_rfl
  m17 := by kernel_rfl
  m18 := by kernel_rfl
  m19 := by kernel_rfl }
open Go.RowKit Go.Sort Go.Lib in
/-- strconv.Itoa: "Itoa is equivalent to FormatInt(int64(i), 10).": i's DECIMAL NUMERAL ('Lib.itoa': a '-' where i is negative, then the digits), FOR EVERY int. The world behind the call: the world before it, new blocks behind the heap (the library's 'var a [24]byte'), draws. (LAID: no walk: one application.) -/
theorem Tryd.strconv_Itoa (n : Int) (h0 : -9223372036854775808 ≤ n) (h1 : n ≤ 9223372036854775807) (w : World) (htab : Lib.TabIs Tryd.prog w "internal/strconv.uint64pow10" .u64 Lib.pow10Tab) :
    Calls Tryd.prog 22 #[.int .i64 n] w fun e w' => e = .returned (.string ⟨(Lib.itoa n).toArray⟩) ∧ ∃ k os, w' = grow (w.drewN k) os := Any.strconv_Itoa Tryd.laysM171 n h0 h1 w htab
def Tryd.laysC172_ren : Go.Shelf.Ren := ⟨fun | 172 => 151 | 244 => 170 | 245 => 171 | 247 => 180 | 279 => 181 | 280 => 182 | 281 => 183 | 282 => 184 | 287 => 189 | 316 => 190 | 171 => 22 | 205 => 191 | 321 => 194 | 322 => 195 | 243 => 58 | 246 => 98 | 283 => 130 | 284 => 131 | 285 => 132 | 286 => 133 | 129 => 154 | 317 => 153 | 318 => 155 | 319 => 156 | 320 => 157 | 337 => 172 | 338 => 173 | n => n, fun | 9 => 9 | 3 => 3 | 75 => 132 | 76 => 133 | 4 => 4 | 5 => 5 | 167 => 216 | 37 => 86 | 0 => 0 | 85 => 217 | 2 => 2 | 168 => 219 | 53 => 151 | 175 => 226 | 46 => 159 | 210 => 230 | 127 => 139 | 145 => 236 | 143 => 234 | 21 => 21 | 171 => 173 | 173 => 176 | 212 => 197 | 51 => 187 | 20 => 20 | 213 => 198 | 232 => 222 | 233 => 223 | 80 => 93 | n => n, fun | 15 => 6 | 16 => 7 | 17 => 2 | 18 => 4 | 19 => 5 | n => n⟩
theorem Tryd.laysC172 : Go.Proofs.LaysC.n172 Tryd.prog Tryd.laysC172_ren := {
  mixed := by kernel_rfl
  f129 := Tryd.func154.trans (congrArg some (by kernel_rfl))
  f171 := Tryd.func22.trans (congrArg some (by kernel_rfl))
  f172 := Tryd.func151.trans (congrArg some (by kernel_rfl))
  f205 := Tryd.func191.trans (congrArg some (by kernel_rfl))
  f243 := Tryd.func58.trans (congrArg some (by kernel_rfl))
  f244 := Tryd.func170.trans (congrArg some (by kernel_rfl))
  f245 := Tryd.func171.trans (congrArg some (by kernel_rfl))
  f246 := Tryd.func98.trans (congrArg some (by kernel_rfl))
  f247 := Tryd.func180.trans (congrArg some (by kernel_rfl))
  f279 := Tryd.func181.trans (congrArg some (by kernel_rfl))
  f280 := Tryd.func182.trans (congrArg some (by kernel_rfl))
  f281 := Tryd.func183.trans (congrArg some (by kernel_rfl))
  f282 := Tryd.func184.trans (congrArg some (by kernel_rfl))
  f283 := Tryd.func130.trans (congrArg some (by kernel_rfl))
  f284 := Tryd.func131.trans (congrArg some (by kernel_rfl))
  f285 := Tryd.func132.trans (congrArg some (by kernel_rfl))
  f286 := Tryd.func133.trans (congrArg some (by kernel_rfl))
  f287 := Tryd.func189.trans (congrArg some (by kernel_rfl))
  f316 := Tryd.func190.trans (congrArg some (by kernel_rfl))
  f317 := Tryd.func153.trans (congrArg some (by kernel_rfl))
  f318 := Tryd.func155.trans (congrArg some (by kernel_rfl))
  f319 := Tryd.func156.trans (congrArg some (by kernel_rfl))
  f320 := Tryd.func157.trans (congrArg some (by kernel_rfl))
  f321 := Tryd.func194.trans (congrArg some (by kernel_rfl))
  f322 := Tryd.func195.trans (congrArg some (by kernel_rfl))
  f337 := Tryd.func172.trans (congrArg some (by kernel_rfl))
  f338 := Tryd.func173.trans (congrArg some (by kernel_rfl))
  t0 := Tryd.underlying0
  a0 := Tryd.isAgg0
  z0 := Tryd.sizeOf0
  v0 := Tryd.zeroValue0
  t2 := Tryd.underlying2
  a2 := Tryd.isAgg2
  z2 := Tryd.sizeOf2
  v2 := Tryd.zeroValue2
  t3 := Tryd.underlying3
  a3 := Tryd.isAgg3
  z3 := Tryd.sizeOf3
  v3 := Tryd.zeroValue3
  t4 := Tryd.underlying4
  a4 := Tryd.isAgg4
  z4 := Tryd.sizeOf4
  v4 := Tryd.zeroValue4
  t5 := Tryd.underlying5
  a5 := Tryd.isAgg5
  z5 := Tryd.sizeOf5
  v5 := Tryd.zeroValue5
  t9 := Tryd.underlying9
  a9 := Tryd.isAgg9
  z9 := Tryd.sizeOf9
  v9 := Tryd.zeroValue9
  t20 := Tryd.underlying20
  a20 := Tryd.isAgg20
  z20 := Tryd.sizeOf20
  v20 := Tryd.zeroValue20
  t21 := Tryd.underlying21
  a21 := Tryd.isAgg21
  z21 := Tryd.sizeOf21
  v21 := Tryd.zeroValue21
  t37 := Tryd.underlying86
  a37 := Tryd.isAgg86
  z37 := Tryd.sizeOf86
  v37 := Tryd.zeroValue86
  t46 := Tryd.underlying159
  a46 := Tryd.isAgg159
  z46 := Tryd.sizeOf159
  v46 := Tryd.zeroValue159
  t51 := Tryd.underlying187
  a51 := Tryd.isAgg187
  z51 := Tryd.sizeOf187
  v51 := Tryd.zeroValue187
  t53 := Tryd.underlying151
  a53 := Tryd.isAgg151
  z53 := Tryd.sizeOf151
  v53 := Tryd.zeroValue151
  t75 := Tryd.underlying132
  a75 := Tryd.isAgg132
  z75 := Tryd.sizeOf132
  v75 := Tryd.zeroValue132
  t76 := Tryd.underlying133
  a76 := Tryd.isAgg133
  z76 := Tryd.sizeOf133
  v76 := Tryd.zeroValue133
  t85 := Tryd.underlying217
  a85 := Tryd.isAgg217
  z85 := Tryd.sizeOf217
  v85 := Tryd.zeroValue217
  t127 := Tryd.underlying139
  a127 := Tryd.isAgg139
  z127 := Tryd.sizeOf139
  v127 := Tryd.zeroValue139
  t143 := Tryd.underlying234
  a143 := Tryd.isAgg234
  z143 := Tryd.sizeOf234
  v143 := Tryd.zeroValue234
  t145 := Tryd.underlying236
  a145 := Tryd.isAgg236
  z145 := Tryd.sizeOf236
  v145 := Tryd.zeroValue236
  t167 := Tryd.underlying216
  a167 := Tryd.isAgg216
  z167 := Tryd.sizeOf216
  v167 := Tryd.zeroValue216
  t168 := Tryd.underlying219
  a168 := Tryd.isAgg219
  z168 := Tryd.sizeOf219
  v168 := Tryd.zeroValue219
  t171 := Tryd.underlying173
  a171 := Tryd.isAgg173
  z171 := Tryd.sizeOf173
  v171 := Tryd.zeroValue173
  t173 := Tryd.underlying176
  a173 := Tryd.isAgg176
  z173 := Tryd.sizeOf176
  v173 := Tryd.zeroValue176
  t175 := Tryd.underlying226
  a175 := Tryd.isAgg226
  z175 := Tryd.sizeOf226
  v175 := Tryd.zeroValue226
  t210 := Tryd.underlying230
  a210 := Tryd.isAgg230
  z210 := Tryd.sizeOf230
  v210 := Tryd.zeroValue230
  t212 := Tryd.underlying197
  a212 := Tryd.isAgg197
  z212 := Tryd.sizeOf197
  v212 := Tryd.zeroValue197
  t213 := Tryd.underlying198
  a213 := Tryd.isAgg198
  z213 := Tryd.sizeOf198
  t232 := Tryd.underlying222
  a232 := Tryd.isAgg222
  z232 := Tryd.sizeOf222
  v232 := Tryd.zeroValue222
  t233 := Tryd.underlying223
  a233 := Tryd.isAgg223
  z233 := Tryd.sizeOf223
  v233 := Tryd.zeroValue223
  g15 := by kernel_rfl
  g16 := by kernel_rfl
  g17 := by kernel_rfl
  g18 := by kernel_rfl
  g19 := by kernel_rfl
  t80 := Tryd.underlying93
  a80 := Tryd.isAgg93
  z80 := Tryd.sizeOf93
  v80 := Tryd.zeroValue93
  i0 := by kernel_rfl
  i2 := by kernel_rfl
  i3 := by kernel_rfl
  i4 := by kernel_rfl
  i5 := by kernel_rfl
  i9 := by kernel_rfl
  i20 := by kernel_rfl
  i21 := by kernel_rfl
  i37 := by kernel_rfl
  i46 := by kernel_rfl
  i51 := by kernel_rfl
  i53 := by kernel_rfl
  i75 := by kernel_rfl
  i76 := by kernel_rfl
  i80 := by kernel_rfl
  i85 := by kernel_rfl
  i127 := by kernel_rfl
  i143 := by kernel_rfl
  i145 := by kernel_rfl
  i167 := by kernel_rfl
  i168 := by kernel_rfl
  i171 := by kernel_rfl
  i173 := by kernel_rfl
  i175 := by kernel_rfl
  i210 := by kernel_rfl
  i212 := by kernel_rfl
  i232 := by kernel_rfl
  i233 := by kernel_rfl
  m15 := by kernel_rfl
  m16 := by kernel_rfl
  m17 := by kernel_rfl
  m18 := by kernel_rfl
  m19 := by kernel_rfl
  c0 := by kernel_rfl
  c2 := by kernel_rfl
  c3 := by kernel_rfl
  c4 := by kernel_rfl
  c5 := by kernel_rfl
  c9 := by kernel_rfl
  c20 := by kernel_rfl
  c21 := by kernel_rfl
  c37 := by kernel_rfl
  c46 := by kernel_rfl
  c51 := by kernel_rfl
  c53 := by kernel_rfl
  c75 := by kernel_rfl
  c76 := by kernel_rfl
  c80 := by kernel_rfl
  c85 := by kernel_rfl
  c127 := by kernel_rfl
  c143 := by kernel_rfl
  c145 := by kernel_rfl
  c167 := by kernel_rfl
  c168 := by kernel_rfl
  c171 := by kernel_rfl
  c173 := by kernel_rfl
  c175 := by kernel_rfl
  c210 := by kernel_rfl
  c212 := by kernel_rfl
  c213 := by kernel_rfl
  c232 := by kernel_rfl
  c233 := by kernel_rfl }
open Go.RowKit in
/-- strconv.Atoi, AT EVERY STRING THAT SPELLS AN int ('Lib.atoiAll .. = .ok v'; of whatever length: leading zeros count): v, AND NO ERROR. The world: as it was, or with the one new row that '[]byte(..)' lays. (LAID: no walk: one application.) -/
theorem Tryd.strconv_Atoi_ok (s : ByteArray) (hmax : s.size ≤ 9223372036854775806) (v : Int) (h : Lib.atoiAll s.data.toList = .ok v) (w : World) :
    Calls Tryd.prog 151 #[.string s] w fun e w' => e = .returned (.tuple #[.int .i64 v, .nilIface]) ∧ (w' = w ∨ ∃ t, w' = Lib.bytesWorld w 5 t) := Any.strconv_Atoi_ok Tryd.laysC172 s hmax v h w
open Go.RowKit in
/-- strconv.Atoi, AT EVERY NUMERAL THAT NO int HOLDS ('.range'): THE GREATEST OR THE LEAST int, BY THE SIGN ('Lib.atoiSat'), AND AN ERROR THAT IS NOT nil: a *NumError in a new block N: {Func: "Atoi", Num: s's bytes, Err: what the variable ErrRange holds}. Of what was there nothing has turned. (LAID: no walk: one application.) -/
theorem Tryd.strconv_Atoi_range (s : ByteArray) (hlim : s.size ≤ 281474976710656) (h : Lib.atoiAll s.data.toList = .range) (ev : Value) (w : World) (hv : w.cell? ⟨7, 0, none⟩ = some ev) (hev : ev = .nilIface ∨ ∃ te pe, ev = .iface te pe) :
    Calls Tryd.prog 151 #[.string s] w fun e w' => ∃ N, e = .returned (.tuple #[.int .i64 (Lib.atoiSat s.data.toList), .iface 219 (.pointer (some ⟨N, 0, none⟩))]) ∧ w.heap.size ≤ N ∧ w'.heap[N]? = some (.cells #[.string ⟨#[65, 116, 111, 105]⟩, .string s, ev] 230 (0, 0)) ∧ Below w.heap.size w w' := Any.strconv_Atoi_range Tryd.laysC172 s hlim h ev w hv hev
def Tryd.lays144_ren : Go.Shelf.Ren := ⟨fun | 144 => 121 | 143 => 148 | 219 => 168 | 217 => 147 | 225 => 177 | 224 => 178 | 267 => 179 | 266 => 167 | 314 => 188 | n => n, fun | 9 => 9 | 4 => 4 | 3 => 3 | 5 => 5 | 46 => 159 | 146 => 188 | 51 => 187 | n => n, fun | 1 => 3 | n => n⟩
theorem Tryd.lays144 : Go.Proofs.Lays.n144 Tryd.prog Tryd.lays144_ren := {
  mixed := by kernel_rfl
  f143 := Tryd.func148.trans (congrArg some (by kernel_rfl))
  f144 := Tryd.func121.trans (congrArg some (by kernel_rfl))
  f217 := Tryd.func147.trans (congrArg some (by kernel_rfl))
  f219 := Tryd.func168.trans (congrArg some (by kernel_rfl))
  f224 := Tryd.func178.trans (congrArg some (by kernel_rfl))
  f225 := Tryd.func177.trans (congrArg some (by kernel_rfl))
  f266 := Tryd.func167.trans (congrArg some (by kernel_rfl))
  f267 := Tryd.func179.trans (congrArg some (by kernel_rfl))
  f314 := Tryd.func188.trans (congrArg some (by kernel_rfl))
  t3 := Tryd.underlying3
  a3 := Tryd.isAgg3
  z3 := Tryd.sizeOf3
  v3 := Tryd.zeroValue3
  t4 := Tryd.underlying4
  a4 := Tryd.isAgg4
  z4 := Tryd.sizeOf4
  v4 := Tryd.zeroValue4
  t5 := Tryd.underlying5
  a5 := Tryd.isAgg5
  z5 := Tryd.sizeOf5
  v5 := Tryd.zeroValue5
  t9 := Tryd.underlying9
  a9 := Tryd.isAgg9
  z9 := Tryd.sizeOf9
  v9 := Tryd.zeroValue9
  t46 := Tryd.underlying159
  a46 := Tryd.isAgg159
  z46 := Tryd.sizeOf159
  v46 := Tryd.zeroValue159
  t51 := Tryd.underlying187
  a51 := Tryd.isAgg187
  z51 := Tryd.sizeOf187
  v51 := Tryd.zeroValue187
  t146 := Tryd.underlying188
  a146 := Tryd.isAgg188
  z146 := Tryd.sizeOf188
  v146 := Tryd.zeroValue188
  g1 := by kernel_rfl }
open Go.RowKit Go.Lib in
/-- strings.Contains: "Contains reports whether substr is within s.": IT RETURNS 'Lib.contains s substr'; the world is as it was. (LAID: no walk: one application.) -/
theorem Tryd.strings_Contains (s sub : ByteArray) (m : Int) (w : World) (hs : s.size < 4294967281) (hm : w.cell? ⟨3, 0, none⟩ = some (.int .i64 m)) :
    Calls Tryd.prog 121 #[.string s, .string sub] w fun e w' => e = .returned (.bool (Lib.contains s.data.toList sub.data.toList)) ∧ w' = w := Any.strings_Contains Tryd.lays144 s sub m w hs hm
def Tryd.lays145_ren : Go.Shelf.Ren := ⟨fun | 145 => 149 | 220 => 169 | 219 => 168 | 217 => 147 | 225 => 177 | 224 => 178 | 267 => 179 | 266 => 167 | 314 => 188 | n => n, fun | 9 => 9 | 4 => 4 | 59 => 193 | 3 => 3 | 5 => 5 | 46 => 159 | 146 => 188 | 51 => 187 | n => n, fun | 1 => 3 | n => n⟩
theorem Tryd.lays145 : Go.Proofs.Lays.n145 Tryd.prog Tryd.lays145_ren := {
  mixed := by kernel_rfl
  f145 := Tryd.func149.trans (congrArg some (by kernel_rfl))
  f217 := Tryd.func147.trans (congrArg some (by kernel_rfl))
  f219 := Tryd.func168.trans (congrArg some (by kernel_rfl))
  f220 := Tryd.func169.trans (congrArg some (by kernel_rfl))
  f224 := Tryd.func178.trans (congrArg some (by kernel_rfl))
  f225 := Tryd.func177.trans (congrArg some (by kernel_rfl))
  f266 := Tryd.func167.trans (congrArg some (by kernel_rfl))
  f267 := Tryd.func179.trans (congrArg some (by kernel_rfl))
  f314 := Tryd.func188.trans (congrArg some (by kernel_rfl))
  t3 := Tryd.underlying3
  a3 := Tryd.isAgg3
  z3 := Tryd.sizeOf3
  v3 := Tryd.zeroValue3
  t4 := Tryd.underlying4
  a4 := Tryd.isAgg4
  z4 := Tryd.sizeOf4
  v4 := Tryd.zeroValue4
  t5 := Tryd.underlying5
  a5 := Tryd.isAgg5
  z5 := Tryd.sizeOf5
  v5 := Tryd.zeroValue5
  t9 := Tryd.underlying9
  a9 := Tryd.isAgg9
  z9 := Tryd.sizeOf9
  v9 := Tryd.zeroValue9
  t46 := Tryd.underlying159
  a46 := Tryd.isAgg159
  z46 := Tryd.sizeOf159
  v46 := Tryd.zeroValue159
  t51 := Tryd.underlying187
  a51 := Tryd.isAgg187
  z51 := Tryd.sizeOf187
  v51 := Tryd.zeroValue187
  t59 := Tryd.underlying193
  a59 := Tryd.isAgg193
  z59 := Tryd.sizeOf193
  v59 := Tryd.zeroValue193
  t146 := Tryd.underlying188
  a146 := Tryd.isAgg188
  z146 := Tryd.sizeOf188
  v146 := Tryd.zeroValue188
  g1 := by kernel_rfl }
open Go.RowKit Go.Lib in
/-- strings.Cut: "Cut slices s around the first instance of sep, returning the text before and after sep. The found result reports whether sep appears in s. If sep does not appear in s, cut returns s, "", false.": IT RETURNS 'Lib.cut s sep'; the world is as it was but for the count of draws. (LAID: no walk: one application.) -/
theorem Tryd.strings_Cut (s sep : ByteArray) (m : Int) (w : World) (hs : s.size < 4294967281) (hm : w.cell? ⟨3, 0, none⟩ = some (.int .i64 m)) :
    Calls Tryd.prog 149 #[.string s, .string sep] w fun e w' => e = .returned (.tuple #[.string ⟨(Lib.cut s.data.toList sep.data.toList).1.toArray⟩, .string ⟨(Lib.cut s.data.toList sep.data.toList).2.1.toArray⟩, .bool (Lib.cut s.data.toList sep.data.toList).2.2]) ∧ ∃ n, w' = w.drewN n := Any.strings_Cut Tryd.lays145 s sep m w hs hm
def Tryd.lays105_ren : Go.Shelf.Ren := ⟨fun | 105 => 75 | 212 => 112 | 99 => 113 | 165 => 114 | 166 => 74 | 170 => 115 | 169 => 47 | 263 => 141 | 264 => 104 | 206 => 142 | 240 => 111 | 241 => 143 | 276 => 140 | 277 => 162 | n => n, fun | 9 => 9 | 3 => 3 | 4 => 4 | 20 => 20 | 0 => 0 | 46 => 159 | 109 => 160 | 5 => 5 | 72 => 88 | 76 => 133 | 51 => 187 | 146 => 188 | 53 => 151 | 148 => 152 | 70 => 85 | 37 => 86 | 75 => 132 | 127 => 139 | 164 => 185 | 80 => 93 | n => n, fun | n => n⟩
theorem Tryd.lays105 : Go.Proofs.Lays.n105 Tryd.prog Tryd.lays105_ren := {
  mixed := by kernel_rfl
  f99 := Tryd.func113.trans (congrArg some (by kernel_rfl))
  f105 := Tryd.func75.trans (congrArg some (by kernel_rfl))
  f165 := Tryd.func114.trans (congrArg some (by kernel_rfl))
  f166 := Tryd.func74.trans (congrArg some (by kernel_rfl))
  f169 := Tryd.func47.trans (congrArg some (by kernel_rfl))
  f170 := Tryd.func115.trans (congrArg some (by kernel_rfl))
  f206 := Tryd.func142.trans (congrArg some (by kernel_rfl))
  f212 := Tryd.func112.trans (congrArg some (by kernel_rfl))
  f240 := Tryd.func111.trans (congrArg some (by kernel_rfl))
  f241 := Tryd.func143.trans (congrArg some (by kernel_rfl))
  f263 := Tryd.func141.trans (congrArg some (by kernel_rfl))
  f264 := Tryd.func104.trans (congrArg some (by kernel_rfl))
  f276 := Tryd.func140.trans (congrArg some (by kernel_rfl))
  f277 := Tryd.func162.trans (congrArg some (by kernel_rfl))
  t0 := Tryd.underlying0
  a0 := Tryd.isAgg0
  z0 := Tryd.sizeOf0
  v0 := Tryd.zeroValue0
  t3 := Tryd.underlying3
  a3 := Tryd.isAgg3
  z3 := Tryd.sizeOf3
  v3 := Tryd.zeroValue3
  t4 := Tryd.underlying4
  a4 := Tryd.isAgg4
  z4 := Tryd.sizeOf4
  v4 := Tryd.zeroValue4
  t5 := Tryd.underlying5
  a5 := Tryd.isAgg5
  z5 := Tryd.sizeOf5
  v5 := Tryd.zeroValue5
  t9 := Tryd.underlying9
  a9 := Tryd.isAgg9
  z9 := Tryd.sizeOf9
  v9 := Tryd.zeroValue9
  t20 := Tryd.underlying20
  a20 := Tryd.isAgg20
  z20 := Tryd.sizeOf20
  v20 := Tryd.zeroValue20
  t37 := Tryd.underlying86
  a37 := Tryd.isAgg86
  z37 := Tryd.sizeOf86
  v37 := Tryd.zeroValue86
  t46 := Tryd.underlying159
  a46 := Tryd.isAgg159
  z46 := Tryd.sizeOf159
  v46 := Tryd.zeroValue159
  t51 := Tryd.underlying187
  a51 := Tryd.isAgg187
  z51 := Tryd.sizeOf187
  v51 := Tryd.zeroValue187
  t53 := Tryd.underlying151
  a53 := Tryd.isAgg151
  z53 := Tryd.sizeOf151
  v53 := Tryd.zeroValue151
  t70 := Tryd.underlying85
  a70 := Tryd.isAgg85
  z70 := Tryd.sizeOf85
  v70 := Tryd.zeroValue85
  t72 := Tryd.underlying88
  a72 := Tryd.isAgg88
  z72 := Tryd.sizeOf88
  v72 := Tryd.zeroValue88
  t75 := Tryd.underlying132
  a75 := Tryd.isAgg132
  z75 := Tryd.sizeOf132
  v75 := Tryd.zeroValue132
  t76 := Tryd.underlying133
  a76 := Tryd.isAgg133
  z76 := Tryd.sizeOf133
  v76 := Tryd.zeroValue133
  t109 := Tryd.underlying160
  a109 := Tryd.isAgg160
  z109 := Tryd.sizeOf160
  v109 := Tryd.zeroValue160
  t127 := Tryd.underlying139
  a127 := Tryd.isAgg139
  z127 := Tryd.sizeOf139
  v127 := Tryd.zeroValue139
  t146 := Tryd.underlying188
  a146 := Tryd.isAgg188
  z146 := Tryd.sizeOf188
  v146 := Tryd.zeroValue188
  t148 := Tryd.underlying152
  a148 := Tryd.isAgg152
  z148 := Tryd.sizeOf152
  v148 := Tryd.zeroValue152
  t164 := Tryd.underlying185
  a164 := Tryd.isAgg185
  z164 := Tryd.sizeOf185
  v164 := Tryd.zeroValue185 }
theorem Tryd.Builder_Extra_105 : Builder.Extra Tryd.prog Tryd.lays105_ren := {
  sizeBuilder := by kernel_rfl
  liesBuilder := by kernel_rfl
  t5 := Tryd.underlying5
  a5 := Tryd.isAgg5
  z5 := Tryd.sizeOf5
  v5 := Tryd.zeroValue5
  infoByte := by kernel_rfl
  cellsByte := by kernel_rfl
  sizeByte := by kernel_rfl
  neB5 := by decide }
open Go.RowKit Go.Lib in
/-- **strings.Repeat: count ≥ 0, the result within one allocation: count copies of s.** (LAID: no walk: one application.) -/
theorem Tryd.strings_Repeat (s : ByteArray) (c : Nat) (w : World) (hc : c ≤ 9223372036854775807) (hlen : s.size * c ≤ 140737488355328) :
    Calls Tryd.prog 75 #[.string s, .int .i64 c] w fun e w' => e = .returned (.string ⟨(Lib.repeatL s.data.toList c).toArray⟩) ∧ Below w.heap.size w w' := Any.strings_Repeat Tryd.lays105 Tryd.Builder_Extra_105 s c w hc hlen
end Go.Proofs
