/-
  DERIVED: THE SHELF's CONTRACTS AT THIS DUMP, IN PLAIN WORDS (tools/lay-plain.mjs out of 'YtgdgklibilddgaaGreatDoorShelf.lean', which tools/lay-shelf.mjs wrote): THE SAME DECLARATIONS UNDER THE SAME NAMES: 'import', 'namespace', 'open', 'def', 'theorem' AND NOTHING ELSE: no command of the shelf's: FOR A HAND-IN. Each laying: the table of numbers ('.._ren') and one theorem, a field a fact of the dump's own or the kernel's comparison; each contract: ONE APPLICATION.
-/
import Derived.Shelf.Strings.Builder1
import Derived.Shelf.Strings.Builder2
import Derived.Shelf.Strings.OnBuilder
import Derived.Shelf.Strings.BuilderF
import Derived.Shelf.Strings.BuilderK
import Derived.Shelf.Utf8.RuneCount
import Derived.Shelf.Strings.Builder2Cap
import Derived.Shelf.Strconv.Atoi
import Derived.Shelf.Strconv.Itoa0
import Derived.Shelf.Strconv.Itoa1
import Derived.Shelf.LaysM
import Derived.Shelf.Strconv.Itoa2
import Derived.Shelf.Strconv.Itoa3
import Derived.Shelf.Strconv.AtoiErrFast
import Derived.Shelf.Strconv.ParseIntEmpty
import Derived.Shelf.Strconv.AtoiFail
import Derived.Shelf.Strconv.Clone
import Derived.Shelf.Strconv.SyntaxError
import Derived.Shelf.LaysC
import Derived.Shelf.Strconv.ToError
import Derived.Shelf.Strconv.Lower
import Derived.Shelf.Strconv.ParseUint10
import Derived.Shelf.Strconv.ParseUint10Empty
import Derived.Shelf.Strconv.ParseUint10Any
import Derived.Shelf.Strconv.ParseInt10
import Derived.Shelf.Strconv.AtoiLong
import Derived.Shelf.Strconv.AtoiInnerAll
import Derived.Shelf.Strconv.RangeError
import Derived.Shelf.Strconv.ToErrorRange
import Derived.Shelf.Strconv.AtoiAll
import Derived.Shelf.Strconv.ParseUintEmpty
import Derived.Shelf.Strconv.ParseUint10b64
import Derived.Shelf.Strconv.ParseUint10b32
import Derived.Shelf.Strconv.ParseUint10b16
import Derived.Shelf.Strconv.ParseUint10b8
import Derived.Ground.MpProg
import Derived.Shelf.Pu.ParseUintPublic10
import Derived.Shelf.Pu.ErrVarParseUint
import Derived.Shelf.Strings.Search1
import Derived.Shelf.Strings.Search2
import Derived.Shelf.Strings.Search3
import Derived.Shelf.Strings.Cut
import Derived.Shelf.Strings.Count
import Derived.Shelf.Strings.Shaped
import Derived.Shelf.Strings.Split
import Derived.Shelf.Strings.SplitShaped
import Derived.Shelf.Unicode.Decode
import Derived.Shelf.Strings.RuneCount
import Derived.Shelf.Strings.Explode
import Derived.Shelf.Unicode.DecodeSlow
import Derived.Shelf.Unicode.DecodeAny
import Derived.Ground.Names2Prog
import Derived.Shelf.Slices.SearchI
import Derived.Test.YtgdgklibilddgaaGreatDoorProg
namespace Go.Proofs
open Go.Shelf
def Tryz.lays156_ren : Go.Shelf.Ren := ⟨fun | 156 => 128 | 165 => 139 | 166 => 140 | 169 => 141 | 240 => 157 | 241 => 158 | 276 => 168 | 277 => 169 | n => n, fun | 31 => 132 | 9 => 9 | 3 => 3 | 4 => 4 | 0 => 0 | 20 => 20 | 72 => 151 | 76 => 84 | 70 => 149 | 37 => 122 | 75 => 83 | 127 => 167 | 164 => 180 | 5 => 5 | 80 => 153 | n => n, fun | n => n⟩
theorem Tryz.lays156 : Go.Proofs.Lays.n156 Tryz.prog Tryz.lays156_ren := {
  mixed := by kernel_rfl
  f156 := Tryz.func128.trans (congrArg some (by kernel_rfl))
  f165 := Tryz.func139.trans (congrArg some (by kernel_rfl))
  f166 := Tryz.func140.trans (congrArg some (by kernel_rfl))
  f169 := Tryz.func141.trans (congrArg some (by kernel_rfl))
  f240 := Tryz.func157.trans (congrArg some (by kernel_rfl))
  f241 := Tryz.func158.trans (congrArg some (by kernel_rfl))
  f276 := Tryz.func168.trans (congrArg some (by kernel_rfl))
  f277 := Tryz.func169.trans (congrArg some (by kernel_rfl))
  t0 := Tryz.underlying0
  a0 := Tryz.isAgg0
  z0 := Tryz.sizeOf0
  v0 := Tryz.zeroValue0
  t3 := Tryz.underlying3
  a3 := Tryz.isAgg3
  z3 := Tryz.sizeOf3
  v3 := Tryz.zeroValue3
  t4 := Tryz.underlying4
  a4 := Tryz.isAgg4
  z4 := Tryz.sizeOf4
  v4 := Tryz.zeroValue4
  t9 := Tryz.underlying9
  a9 := Tryz.isAgg9
  z9 := Tryz.sizeOf9
  v9 := Tryz.zeroValue9
  t20 := Tryz.underlying20
  a20 := Tryz.isAgg20
  z20 := Tryz.sizeOf20
  v20 := Tryz.zeroValue20
  t31 := Tryz.underlying132
  a31 := Tryz.isAgg132
  z31 := Tryz.sizeOf132
  v31 := Tryz.zeroValue132
  t37 := Tryz.underlying122
  a37 := Tryz.isAgg122
  z37 := Tryz.sizeOf122
  v37 := Tryz.zeroValue122
  t70 := Tryz.underlying149
  a70 := Tryz.isAgg149
  z70 := Tryz.sizeOf149
  v70 := Tryz.zeroValue149
  t72 := Tryz.underlying151
  a72 := Tryz.isAgg151
  z72 := Tryz.sizeOf151
  v72 := Tryz.zeroValue151
  t75 := Tryz.underlying83
  a75 := Tryz.isAgg83
  z75 := Tryz.sizeOf83
  v75 := Tryz.zeroValue83
  t76 := Tryz.underlying84
  a76 := Tryz.isAgg84
  z76 := Tryz.sizeOf84
  v76 := Tryz.zeroValue84
  t127 := Tryz.underlying167
  a127 := Tryz.isAgg167
  z127 := Tryz.sizeOf167
  v127 := Tryz.zeroValue167
  t164 := Tryz.underlying180
  a164 := Tryz.isAgg180
  z164 := Tryz.sizeOf180
  v164 := Tryz.zeroValue180 }
theorem Tryz.Builder_Extra_156 : Builder.Extra Tryz.prog Tryz.lays156_ren := {
  sizeBuilder := by kernel_rfl
  liesBuilder := by kernel_rfl
  t5 := Tryz.underlying5
  a5 := Tryz.isAgg5
  z5 := Tryz.sizeOf5
  v5 := Tryz.zeroValue5
  infoByte := by kernel_rfl
  cellsByte := by kernel_rfl
  sizeByte := by kernel_rfl
  neB5 := by decide }
open Go.RowKit in
/-- No element: the empty string; the world is as it was. (Whatever the slice's address and capacity: a nil slice too.) (LAID: no walk: one application.) -/
theorem Tryz.strings_Join_none (a : Option Addr) (c : Nat) (sep : ByteArray) (w : World) :
    Calls Tryz.prog 128 #[.slice a 0 c, .string sep] w fun e w' => e = .returned (.string ⟨#[]⟩) ∧ w' = w := Any.strings_Join_none Tryz.lays156 Tryz.Builder_Extra_156 a c sep w
open Go.RowKit in
/-- strings.Join: "Join concatenates the elements of its first argument to create a single string. The separator string sep is placed between elements in the resulting string.": HOWEVER MANY ELEMENTS. Below the heap's end the world is as it was. (LAID: no walk: one application.) -/
theorem Tryz.strings_Join (bk o c : Nat) (xs : List ByteArray) (sep : ByteArray) (w : World) (hcells : ∀ (j : Nat) x, xs[j]? = some x → w.cell? ⟨bk, o + j, none⟩ = some (.string x)) (hbk : bk < w.heap.size) (hN : xs.length ≤ 140737488355328) (hcap : xs.length ≤ c) (hlen : (Lib.join (xs.map (·.data.toList)) sep.data.toList).length ≤ 140737488355328) :
    Calls Tryz.prog 128 #[.slice (some ⟨bk, o, none⟩) xs.length c, .string sep] w fun e w' => e = .returned (.string ⟨(Lib.join (xs.map (·.data.toList)) sep.data.toList).toArray⟩) ∧ Below w.heap.size w w' := Any.strings_Join Tryz.lays156 Tryz.Builder_Extra_156 bk o c xs sep w hcells hbk hN hcap hlen
def Tryz.lays129_ren : Go.Shelf.Ren := ⟨fun | 129 => 109 | n => n, fun | 53 => 22 | 3 => 3 | 4 => 4 | 46 => 136 | 5 => 5 | 9 => 9 | n => n, fun | n => n⟩
theorem Tryz.lays129 : Go.Proofs.Lays.n129 Tryz.prog Tryz.lays129_ren := {
  mixed := by kernel_rfl
  f129 := Tryz.func109.trans (congrArg some (by kernel_rfl))
  t3 := Tryz.underlying3
  a3 := Tryz.isAgg3
  z3 := Tryz.sizeOf3
  v3 := Tryz.zeroValue3
  t4 := Tryz.underlying4
  a4 := Tryz.isAgg4
  z4 := Tryz.sizeOf4
  v4 := Tryz.zeroValue4
  t5 := Tryz.underlying5
  a5 := Tryz.isAgg5
  z5 := Tryz.sizeOf5
  v5 := Tryz.zeroValue5
  t9 := Tryz.underlying9
  a9 := Tryz.isAgg9
  z9 := Tryz.sizeOf9
  v9 := Tryz.zeroValue9
  t46 := Tryz.underlying136
  a46 := Tryz.isAgg136
  z46 := Tryz.sizeOf136
  v46 := Tryz.zeroValue136
  t53 := Tryz.underlying22
  a53 := Tryz.isAgg22
  z53 := Tryz.sizeOf22
  v53 := Tryz.zeroValue22 }
/-- bits.Len64: "Len64 returns the minimum number of bits required to represent x; the result is 0 for x == 0.": IT RETURNS 'Lib.bitLen x'; the world is as it was. ('h0', 'h1': x is a uint64.) (LAID: no walk: one application.) -/
theorem Tryz.bits_Len64 (x : Int) (w : World) (h0 : 0 ≤ x) (h1 : x ≤ 18446744073709551615) :
    Calls Tryz.prog 109 #[.int .u64 x] w fun e w' => e = .returned (.int .i64 (Lib.bitLen x.toNat)) ∧ w' = w := Any.bits_Len64 Tryz.lays129 x w h0 h1
def Tryz.laysM171_ren : Go.Shelf.Ren := ⟨fun | 171 => 74 | 243 => 113 | 246 => 136 | 283 => 149 | 284 => 150 | 285 => 151 | 286 => 152 | 129 => 109 | 317 => 161 | 318 => 162 | 319 => 163 | 320 => 164 | 337 => 170 | 338 => 171 | n => n, fun | 3 => 3 | 9 => 9 | 2 => 2 | 4 => 4 | 171 => 160 | 0 => 0 | 53 => 22 | 37 => 122 | 5 => 5 | 173 => 162 | 212 => 174 | 51 => 97 | 20 => 20 | 213 => 175 | 46 => 136 | 232 => 184 | 233 => 185 | n => n, fun | 17 => 3 | 18 => 4 | 19 => 5 | n => n⟩
theorem Tryz.laysM171 : Go.Proofs.LaysM.n171 Tryz.prog Tryz.laysM171_ren := {
  mixed := by kernel_rfl
  f129 := Tryz.func109.trans (congrArg some (by kernel_rfl))
  f171 := Tryz.func74.trans (congrArg some (by kernel_rfl))
  f243 := Tryz.func113.trans (congrArg some (by kernel_rfl))
  f246 := Tryz.func136.trans (congrArg some (by kernel_rfl))
  f283 := Tryz.func149.trans (congrArg some (by kernel_rfl))
  f284 := Tryz.func150.trans (congrArg some (by kernel_rfl))
  f285 := Tryz.func151.trans (congrArg some (by kernel_rfl))
  f286 := Tryz.func152.trans (congrArg some (by kernel_rfl))
  f317 := Tryz.func161.trans (congrArg some (by kernel_rfl))
  f318 := Tryz.func162.trans (congrArg some (by kernel_rfl))
  f319 := Tryz.func163.trans (congrArg some (by kernel_rfl))
  f320 := Tryz.func164.trans (congrArg some (by kernel_rfl))
  f337 := Tryz.func170.trans (congrArg some (by kernel_rfl))
  f338 := Tryz.func171.trans (congrArg some (by kernel_rfl))
  t0 := Tryz.underlying0
  a0 := Tryz.isAgg0
  z0 := Tryz.sizeOf0
  v0 := Tryz.zeroValue0
  t2 := Tryz.underlying2
  a2 := Tryz.isAgg2
  z2 := Tryz.sizeOf2
  v2 := Tryz.zeroValue2
  t3 := Tryz.underlying3
  a3 := Tryz.isAgg3
  z3 := Tryz.sizeOf3
  v3 := Tryz.zeroValue3
  t4 := Tryz.underlying4
  a4 := Tryz.isAgg4
  z4 := Tryz.sizeOf4
  v4 := Tryz.zeroValue4
  t5 := Tryz.underlying5
  a5 := Tryz.isAgg5
  z5 := Tryz.sizeOf5
  v5 := Tryz.zeroValue5
  t9 := Tryz.underlying9
  a9 := Tryz.isAgg9
  z9 := Tryz.sizeOf9
  v9 := Tryz.zeroValue9
  t20 := Tryz.underlying20
  a20 := Tryz.isAgg20
  z20 := Tryz.sizeOf20
  v20 := Tryz.zeroValue20
  t37 := Tryz.underlying122
  a37 := Tryz.isAgg122
  z37 := Tryz.sizeOf122
  v37 := Tryz.zeroValue122
  t46 := Tryz.underlying136
  a46 := Tryz.isAgg136
  z46 := Tryz.sizeOf136
  v46 := Tryz.zeroValue136
  t51 := Tryz.underlying97
  a51 := Tryz.isAgg97
  z51 := Tryz.sizeOf97
  v51 := Tryz.zeroValue97
  t53 := Tryz.underlying22
  a53 := Tryz.isAgg22
  z53 := Tryz.sizeOf22
  v53 := Tryz.zeroValue22
  t171 := Tryz.underlying160
  a171 := Tryz.isAgg160
  z171 := Tryz.sizeOf160
  v171 := Tryz.zeroValue160
  t173 := Tryz.underlying162
  a173 := Tryz.isAgg162
  z173 := Tryz.sizeOf162
  v173 := Tryz.zeroValue162
  t212 := Tryz.underlying174
  a212 := Tryz.isAgg174
  z212 := Tryz.sizeOf174
  v212 := Tryz.zeroValue174
  t213 := Tryz.underlying175
  a213 := Tryz.isAgg175
  z213 := Tryz.sizeOf175
  t232 := Tryz.underlying184
  a232 := Tryz.isAgg184
  z232 := Tryz.sizeOf184
  v232 := Tryz.zeroValue184
  t233 := Tryz.underlying185
  a233 := Tryz.isAgg185
  z233 := Tryz.sizeOf185
  v233 := Tryz.zeroValue185
  g17 := by kernel_rfl
  g18 := by kernel_rfl
  g19 := by kernel_rfl
  i0 := by kernel_rfl
  i2 := by kernel_rfl
  i3 := by kernel_rfl
  i4 := by kernel_rfl
  i5 := by kernel_rfl
  i9 := by kernel_rfl
  i20 := by kernel_rfl
  i37 := by kernel_rfl
  i46 := by kernel_rfl
  i51 := by kernel_rfl
  i53 := by kernel_rfl
  i171 := by kernel_rfl
  i173 := by kernel_rfl
  i212 := by kernel_rfl
  i232 := by kernel_rfl
  i233 := by kernel_rfl
  m17 := by kernel_rfl
  m18 := by kernel_rfl
  m19 := by kernel_rfl }
open Go.RowKit Go.Sort Go.Lib in
/-- strconv.Itoa: "Itoa is equivalent to FormatInt(int64(i), 10).": i's DECIMAL NUMERAL ('Lib.itoa': a '-' where i is negative, then the digits), FOR EVERY int. The world behind the call: the world before it, new blocks behind the heap (the library's 'var a [24]byte'), draws. (LAID: no walk: one application.) -/
theorem Tryz.strconv_Itoa (n : Int) (h0 : -9223372036854775808 ≤ n) (h1 : n ≤ 9223372036854775807) (w : World) (htab : Lib.TabIs Tryz.prog w "internal/strconv.uint64pow10" .u64 Lib.pow10Tab) :
    Calls Tryz.prog 74 #[.int .i64 n] w fun e w' => e = .returned (.string ⟨(Lib.itoa n).toArray⟩) ∧ ∃ k os, w' = grow (w.drewN k) os := Any.strconv_Itoa Tryz.laysM171 n h0 h1 w htab
def Tryz.lays171_ren : Go.Shelf.Ren := ⟨fun | 171 => 74 | 243 => 113 | 246 => 136 | 283 => 149 | 284 => 150 | 285 => 151 | 286 => 152 | 129 => 109 | 317 => 161 | 318 => 162 | 319 => 163 | 320 => 164 | 337 => 170 | 338 => 171 | n => n, fun | 3 => 3 | 9 => 9 | 2 => 2 | 4 => 4 | 171 => 160 | 0 => 0 | 53 => 22 | 37 => 122 | 5 => 5 | 173 => 162 | 212 => 174 | 51 => 97 | 20 => 20 | 213 => 175 | 46 => 136 | 232 => 184 | 233 => 185 | n => n, fun | 17 => 3 | 18 => 4 | 19 => 5 | n => n⟩
theorem Tryz.lays171 : Go.Proofs.Lays.n171 Tryz.prog Tryz.lays171_ren := {
  mixed := by kernel_rfl
  f129 := Tryz.func109.trans (congrArg some (by kernel_rfl))
  f171 := Tryz.func74.trans (congrArg some (by kernel_rfl))
  f243 := Tryz.func113.trans (congrArg some (by kernel_rfl))
  f246 := Tryz.func136.trans (congrArg some (by kernel_rfl))
  f283 := Tryz.func149.trans (congrArg some (by kernel_rfl))
  f284 := Tryz.func150.trans (congrArg some (by kernel_rfl))
  f285 := Tryz.func151.trans (congrArg some (by kernel_rfl))
  f286 := Tryz.func152.trans (congrArg some (by kernel_rfl))
  f317 := Tryz.func161.trans (congrArg some (by kernel_rfl))
  f318 := Tryz.func162.trans (congrArg some (by kernel_rfl))
  f319 := Tryz.func163.trans (congrArg some (by kernel_rfl))
  f320 := Tryz.func164.trans (congrArg some (by kernel_rfl))
  f337 := Tryz.func170.trans (congrArg some (by kernel_rfl))
  f338 := Tryz.func171.trans (congrArg some (by kernel_rfl))
  t0 := Tryz.underlying0
  a0 := Tryz.isAgg0
  z0 := Tryz.sizeOf0
  v0 := Tryz.zeroValue0
  t2 := Tryz.underlying2
  a2 := Tryz.isAgg2
  z2 := Tryz.sizeOf2
  v2 := Tryz.zeroValue2
  t3 := Tryz.underlying3
  a3 := Tryz.isAgg3
  z3 := Tryz.sizeOf3
  v3 := Tryz.zeroValue3
  t4 := Tryz.underlying4
  a4 := Tryz.isAgg4
  z4 := Tryz.sizeOf4
  v4 := Tryz.zeroValue4
  t5 := Tryz.underlying5
  a5 := Tryz.isAgg5
  z5 := Tryz.sizeOf5
  v5 := Tryz.zeroValue5
  t9 := Tryz.underlying9
  a9 := Tryz.isAgg9
  z9 := Tryz.sizeOf9
  v9 := Tryz.zeroValue9
  t20 := Tryz.underlying20
  a20 := Tryz.isAgg20
  z20 := Tryz.sizeOf20
  v20 := Tryz.zeroValue20
  t37 := Tryz.underlying122
  a37 := Tryz.isAgg122
  z37 := Tryz.sizeOf122
  v37 := Tryz.zeroValue122
  t46 := Tryz.underlying136
  a46 := Tryz.isAgg136
  z46 := Tryz.sizeOf136
  v46 := Tryz.zeroValue136
  t51 := Tryz.underlying97
  a51 := Tryz.isAgg97
  z51 := Tryz.sizeOf97
  v51 := Tryz.zeroValue97
  t53 := Tryz.underlying22
  a53 := Tryz.isAgg22
  z53 := Tryz.sizeOf22
  v53 := Tryz.zeroValue22
  t171 := Tryz.underlying160
  a171 := Tryz.isAgg160
  z171 := Tryz.sizeOf160
  v171 := Tryz.zeroValue160
  t173 := Tryz.underlying162
  a173 := Tryz.isAgg162
  z173 := Tryz.sizeOf162
  v173 := Tryz.zeroValue162
  t212 := Tryz.underlying174
  a212 := Tryz.isAgg174
  z212 := Tryz.sizeOf174
  v212 := Tryz.zeroValue174
  t213 := Tryz.underlying175
  a213 := Tryz.isAgg175
  z213 := Tryz.sizeOf175
  t232 := Tryz.underlying184
  a232 := Tryz.isAgg184
  z232 := Tryz.sizeOf184
  v232 := Tryz.zeroValue184
  t233 := Tryz.underlying185
  a233 := Tryz.isAgg185
  z233 := Tryz.sizeOf185
  v233 := Tryz.zeroValue185
  g17 := by kernel_rfl
  g18 := by kernel_rfl
  g19 := by kernel_rfl }
open Go.RowKit Go.Sort Go.Lib in
/-- THE ROAD WITHOUT THE TABLE: 0 <= i < 100: NO PREMISE ON THE WORLD, AND THE WORLD IS AS IT WAS: a row that keeps its argument in that range need list no table ('laid = []'). (LAID: no walk: one application.) -/
theorem Tryz.strconv_Itoa_small (i : Nat) (hi : i < 100) (w : World) :
    Calls Tryz.prog 74 #[.int .i64 i] w fun e w' => e = .returned (.string ⟨(Lib.decDigits i).toArray⟩) ∧ w' = w := Any.strconv_Itoa_small Tryz.lays171 i hi w
def Tryz.lays321_ren : Go.Shelf.Ren := ⟨fun | 321 => 155 | n => n, fun | 5 => 5 | n => n, fun | n => n⟩
theorem Tryz.lays321 : Go.Proofs.Lays.n321 Tryz.prog Tryz.lays321_ren := {
  mixed := by kernel_rfl
  f321 := Tryz.func155.trans (congrArg some (by kernel_rfl))
  t5 := Tryz.underlying5
  a5 := Tryz.isAgg5
  z5 := Tryz.sizeOf5
  v5 := Tryz.zeroValue5 }
open Go.RowKit in
/-- internal/strconv.lower: 'c | ('x' - 'X')': the bit 32 set. The world is as it was. (LAID: no walk: one application.) -/
theorem Tryz.internal_strconv_lower (c : Int) (w : World) :
    Calls Tryz.prog 155 #[.int .u8 c] w fun e w' => e = .returned (.int .u8 (bits .or .u8 c 32)) ∧ w' = w := Any.internal_strconv_lower Tryz.lays321 c w
def Tryz.laysC172_ren : Go.Shelf.Ren := ⟨fun | 172 => 73 | 244 => 111 | 245 => 112 | 247 => 131 | 279 => 132 | 280 => 133 | 281 => 134 | 282 => 135 | 287 => 138 | 316 => 147 | 171 => 74 | 205 => 148 | 321 => 155 | 322 => 156 | 243 => 113 | 246 => 136 | 283 => 149 | 284 => 150 | 285 => 151 | 286 => 152 | 129 => 109 | 317 => 161 | 318 => 162 | 319 => 163 | 320 => 164 | 337 => 170 | 338 => 171 | n => n, fun | 9 => 9 | 3 => 3 | 75 => 83 | 76 => 84 | 4 => 4 | 5 => 5 | 167 => 141 | 37 => 122 | 0 => 0 | 85 => 142 | 2 => 2 | 168 => 144 | 53 => 22 | 175 => 134 | 46 => 136 | 210 => 158 | 127 => 167 | 145 => 172 | 143 => 170 | 21 => 21 | 171 => 160 | 173 => 162 | 212 => 174 | 51 => 97 | 20 => 20 | 213 => 175 | 232 => 184 | 233 => 185 | 80 => 153 | n => n, fun | 15 => 1 | 16 => 2 | 17 => 3 | 18 => 4 | 19 => 5 | n => n⟩
theorem Tryz.laysC172 : Go.Proofs.LaysC.n172 Tryz.prog Tryz.laysC172_ren := {
  mixed := by kernel_rfl
  f129 := Tryz.func109.trans (congrArg some (by kernel_rfl))
  f171 := Tryz.func74.trans (congrArg some (by kernel_rfl))
  f172 := Tryz.func73.trans (congrArg some (by kernel_rfl))
  f205 := Tryz.func148.trans (congrArg some (by kernel_rfl))
  f243 := Tryz.func113.trans (congrArg some (by kernel_rfl))
  f244 := Tryz.func111.trans (congrArg some (by kernel_rfl))
  f245 := Tryz.func112.trans (congrArg some (by kernel_rfl))
  f246 := Tryz.func136.trans (congrArg some (by kernel_rfl))
  f247 := Tryz.func131.trans (congrArg some (by kernel_rfl))
  f279 := Tryz.func132.trans (congrArg some (by kernel_rfl))
  f280 := Tryz.func133.trans (congrArg some (by kernel_rfl))
  f281 := Tryz.func134.trans (congrArg some (by kernel_rfl))
  f282 := Tryz.func135.trans (congrArg some (by kernel_rfl))
  f283 := Tryz.func149.trans (congrArg some (by kernel_rfl))
  f284 := Tryz.func150.trans (congrArg some (by kernel_rfl))
  f285 := Tryz.func151.trans (congrArg some (by kernel_rfl))
  f286 := Tryz.func152.trans (congrArg some (by kernel_rfl))
  f287 := Tryz.func138.trans (congrArg some (by kernel_rfl))
  f316 := Tryz.func147.trans (congrArg some (by kernel_rfl))
  f317 := Tryz.func161.trans (congrArg some (by kernel_rfl))
  f318 := Tryz.func162.trans (congrArg some (by kernel_rfl))
  f319 := Tryz.func163.trans (congrArg some (by kernel_rfl))
  f320 := Tryz.func164.trans (congrArg some (by kernel_rfl))
  f321 := Tryz.func155.trans (congrArg some (by kernel_rfl))
  f322 := Tryz.func156.trans (congrArg some (by kernel_rfl))
  f337 := Tryz.func170.trans (congrArg some (by kernel_rfl))
  f338 := Tryz.func171.trans (congrArg some (by kernel_rfl))
  t0 := Tryz.underlying0
  a0 := Tryz.isAgg0
  z0 := Tryz.sizeOf0
  v0 := Tryz.zeroValue0
  t2 := Tryz.underlying2
  a2 := Tryz.isAgg2
  z2 := Tryz.sizeOf2
  v2 := Tryz.zeroValue2
  t3 := Tryz.underlying3
  a3 := Tryz.isAgg3
  z3 := Tryz.sizeOf3
  v3 := Tryz.zeroValue3
  t4 := Tryz.underlying4
  a4 := Tryz.isAgg4
  z4 := Tryz.sizeOf4
  v4 := Tryz.zeroValue4
  t5 := Tryz.underlying5
  a5 := Tryz.isAgg5
  z5 := Tryz.sizeOf5
  v5 := Tryz.zeroValue5
  t9 := Tryz.underlying9
  a9 := Tryz.isAgg9
  z9 := Tryz.sizeOf9
  v9 := Tryz.zeroValue9
  t20 := Tryz.underlying20
  a20 := Tryz.isAgg20
  z20 := Tryz.sizeOf20
  v20 := Tryz.zeroValue20
  t21 := Tryz.underlying21
  a21 := Tryz.isAgg21
  z21 := Tryz.sizeOf21
  v21 := Tryz.zeroValue21
  t37 := Tryz.underlying122
  a37 := Tryz.isAgg122
  z37 := Tryz.sizeOf122
  v37 := Tryz.zeroValue122
  t46 := Tryz.underlying136
  a46 := Tryz.isAgg136
  z46 := Tryz.sizeOf136
  v46 := Tryz.zeroValue136
  t51 := Tryz.underlying97
  a51 := Tryz.isAgg97
  z51 := Tryz.sizeOf97
  v51 := Tryz.zeroValue97
  t53 := Tryz.underlying22
  a53 := Tryz.isAgg22
  z53 := Tryz.sizeOf22
  v53 := Tryz.zeroValue22
  t75 := Tryz.underlying83
  a75 := Tryz.isAgg83
  z75 := Tryz.sizeOf83
  v75 := Tryz.zeroValue83
  t76 := Tryz.underlying84
  a76 := Tryz.isAgg84
  z76 := Tryz.sizeOf84
  v76 := Tryz.zeroValue84
  t85 := Tryz.underlying142
  a85 := Tryz.isAgg142
  z85 := Tryz.sizeOf142
  v85 := Tryz.zeroValue142
  t127 := Tryz.underlying167
  a127 := Tryz.isAgg167
  z127 := Tryz.sizeOf167
  v127 := Tryz.zeroValue167
  t143 := Tryz.underlying170
  a143 := Tryz.isAgg170
  z143 := Tryz.sizeOf170
  v143 := Tryz.zeroValue170
  t145 := Tryz.underlying172
  a145 := Tryz.isAgg172
  z145 := Tryz.sizeOf172
  v145 := Tryz.zeroValue172
  t167 := Tryz.underlying141
  a167 := Tryz.isAgg141
  z167 := Tryz.sizeOf141
  v167 := Tryz.zeroValue141
  t168 := Tryz.underlying144
  a168 := Tryz.isAgg144
  z168 := Tryz.sizeOf144
  v168 := Tryz.zeroValue144
  t171 := Tryz.underlying160
  a171 := Tryz.isAgg160
  z171 := Tryz.sizeOf160
  v171 := Tryz.zeroValue160
  t173 := Tryz.underlying162
  a173 := Tryz.isAgg162
  z173 := Tryz.sizeOf162
  v173 := Tryz.zeroValue162
  t175 := Tryz.underlying134
  a175 := Tryz.isAgg134
  z175 := Tryz.sizeOf134
  v175 := Tryz.zeroValue134
  t210 := Tryz.underlying158
  a210 := Tryz.isAgg158
  z210 := Tryz.sizeOf158
  v210 := Tryz.zeroValue158
  t212 := Tryz.underlying174
  a212 := Tryz.isAgg174
  z212 := Tryz.sizeOf174
  v212 := Tryz.zeroValue174
  t213 := Tryz.underlying175
  a213 := Tryz.isAgg175
  z213 := Tryz.sizeOf175
  t232 := Tryz.underlying184
  a232 := Tryz.isAgg184
  z232 := Tryz.sizeOf184
  v232 := Tryz.zeroValue184
  t233 := Tryz.underlying185
  a233 := Tryz.isAgg185
  z233 := Tryz.sizeOf185
  v233 := Tryz.zeroValue185
  g15 := by kernel_rfl
  g16 := by kernel_rfl
  g17 := by kernel_rfl
  g18 := by kernel_rfl
  g19 := by kernel_rfl
  t80 := Tryz.underlying153
  a80 := Tryz.isAgg153
  z80 := Tryz.sizeOf153
  v80 := Tryz.zeroValue153
  i0 := by kernel_rfl
  i2 := by kernel_rfl
  i3 := by kernel_rfl
  i4 := by kernel_rfl
  i5 := by kernel_rfl
  i9 := by kernel_rfl
  i20 := by kernel_rfl
  i21 := by kernel_rfl
  i37 := by kernel_rfl
  i46 := by kernel_rfl
  i51 := by kernel_rfl
  i53 := by kernel_rfl
  i75 := by kernel_rfl
  i76 := by kernel_rfl
  i80 := by kernel_rfl
  i85 := by kernel_rfl
  i127 := by kernel_rfl
  i143 := by kernel_rfl
  i145 := by kernel_rfl
  i167 := by kernel_rfl
  i168 := by kernel_rfl
  i171 := by kernel_rfl
  i173 := by kernel_rfl
  i175 := by kernel_rfl
  i210 := by kernel_rfl
  i212 := by kernel_rfl
  i232 := by kernel_rfl
  i233 := by kernel_rfl
  m15 := by kernel_rfl
  m16 := by kernel_rfl
  m17 := by kernel_rfl
  m18 := by kernel_rfl
  m19 := by kernel_rfl
  c0 := by kernel_rfl
  c2 := by kernel_rfl
  c3 := by kernel_rfl
  c4 := by kernel_rfl
  c5 := by kernel_rfl
  c9 := by kernel_rfl
  c20 := by kernel_rfl
  c21 := by kernel_rfl
  c37 := by kernel_rfl
  c46 := by kernel_rfl
  c51 := by kernel_rfl
  c53 := by kernel_rfl
  c75 := by kernel_rfl
  c76 := by kernel_rfl
  c80 := by kernel_rfl
  c85 := by kernel_rfl
  c127 := by kernel_rfl
  c143 := by kernel_rfl
  c145 := by kernel_rfl
  c167 := by kernel_rfl
  c168 := by kernel_rfl
  c171 := by kernel_rfl
  c173 := by kernel_rfl
  c175 := by kernel_rfl
  c210 := by kernel_rfl
  c212 := by kernel_rfl
  c213 := by kernel_rfl
  c232 := by kernel_rfl
  c233 := by kernel_rfl }
open Go.RowKit in
/-- strconv.Atoi, AT EVERY STRING THAT SPELLS AN int ('Lib.atoiAll .. = .ok v'; of whatever length: leading zeros count): v, AND NO ERROR. The world: as it was, or with the one new row that '[]byte(..)' lays. (LAID: no walk: one application.) -/
theorem Tryz.strconv_Atoi_ok (s : ByteArray) (hmax : s.size ≤ 9223372036854775806) (v : Int) (h : Lib.atoiAll s.data.toList = .ok v) (w : World) :
    Calls Tryz.prog 73 #[.string s] w fun e w' => e = .returned (.tuple #[.int .i64 v, .nilIface]) ∧ (w' = w ∨ ∃ t, w' = Lib.bytesWorld w 5 t) := Any.strconv_Atoi_ok Tryz.laysC172 s hmax v h w
open Go.RowKit in
/-- strconv.Atoi, AT EVERY STRING THAT IS NO DECIMAL NUMERAL ('.syntax'): 0, AND AN ERROR THAT IS NOT nil: a *NumError in a new block N: {Func: "Atoi", Num: s's bytes, Err: what the variable ErrSyntax holds}. Of what was there nothing has turned. (LAID: no walk: one application.) -/
theorem Tryz.strconv_Atoi_syntax (s : ByteArray) (hlim : s.size ≤ 281474976710656) (h : Lib.atoiAll s.data.toList = Lib.atoiAll []) (ev : Value) (w : World) (hv : w.cell? ⟨1, 0, none⟩ = some ev) (hev : ev = .nilIface ∨ ∃ te pe, ev = .iface te pe) :
    Calls Tryz.prog 73 #[.string s] w fun e w' => ∃ N, e = .returned (.tuple #[.int .i64 (0), .iface 144 (.pointer (some ⟨N, 0, none⟩))]) ∧ w.heap.size ≤ N ∧ w'.heap[N]? = some (.cells #[.string ⟨#[65, 116, 111, 105]⟩, .string s, ev] 158 (0, 0)) ∧ Below w.heap.size w w' := Any.strconv_Atoi_syntax Tryz.laysC172 s hlim h ev w hv hev
open Go.RowKit in
/-- strconv.Atoi, AT EVERY NUMERAL THAT NO int HOLDS ('.range'): THE GREATEST OR THE LEAST int, BY THE SIGN ('Lib.atoiSat'), AND AN ERROR THAT IS NOT nil: a *NumError in a new block N: {Func: "Atoi", Num: s's bytes, Err: what the variable ErrRange holds}. Of what was there nothing has turned. (LAID: no walk: one application.) -/
theorem Tryz.strconv_Atoi_range (s : ByteArray) (hlim : s.size ≤ 281474976710656) (h : Lib.atoiAll s.data.toList = .range) (ev : Value) (w : World) (hv : w.cell? ⟨2, 0, none⟩ = some ev) (hev : ev = .nilIface ∨ ∃ te pe, ev = .iface te pe) :
    Calls Tryz.prog 73 #[.string s] w fun e w' => ∃ N, e = .returned (.tuple #[.int .i64 (Lib.atoiSat s.data.toList), .iface 144 (.pointer (some ⟨N, 0, none⟩))]) ∧ w.heap.size ≤ N ∧ w'.heap[N]? = some (.cells #[.string ⟨#[65, 116, 111, 105]⟩, .string s, ev] 158 (0, 0)) ∧ Below w.heap.size w w' := Any.strconv_Atoi_range Tryz.laysC172 s hlim h ev w hv hev
def Tryz.laysPu14_ren : Go.Shelf.Ren := ⟨fun | 14 => 124 | 16 => 138 | 17 => 112 | 19 => 155 | 20 => 156 | 21 => 132 | 22 => 133 | 23 => 134 | 24 => 135 | 25 => 147 | 27 => 74 | 26 => 148 | 28 => 113 | 29 => 136 | 30 => 149 | 31 => 150 | 32 => 151 | 33 => 152 | 35 => 109 | 34 => 161 | 36 => 162 | 37 => 163 | 38 => 164 | 39 => 170 | 40 => 171 | n => n, fun | 9 => 9 | 3 => 3 | 22 => 22 | 24 => 83 | 25 => 134 | 4 => 4 | 34 => 141 | 5 => 5 | 36 => 136 | 37 => 122 | 0 => 0 | 39 => 144 | 21 => 21 | 44 => 158 | 47 => 167 | 50 => 172 | 48 => 170 | 2 => 2 | 52 => 160 | 55 => 162 | 59 => 174 | 60 => 97 | 20 => 20 | 61 => 175 | 65 => 184 | 66 => 185 | 67 => 153 | n => n, fun | 0 => 1 | 1 => 2 | 2 => 3 | 3 => 4 | 4 => 5 | n => n⟩
theorem Tryz.laysPu14 : Go.Proofs.LaysPu.n14 Tryz.prog Tryz.laysPu14_ren := {
  mixed := by kernel_rfl
  f14 := Tryz.func124.trans (congrArg some (by kernel_rfl))
  f16 := Tryz.func138.trans (congrArg some (by kernel_rfl))
  f17 := Tryz.func112.trans (congrArg some (by kernel_rfl))
  f19 := Tryz.func155.trans (congrArg some (by kernel_rfl))
  f20 := Tryz.func156.trans (congrArg some (by kernel_rfl))
  f21 := Tryz.func132.trans (congrArg some (by kernel_rfl))
  f22 := Tryz.func133.trans (congrArg some (by kernel_rfl))
  f23 := Tryz.func134.trans (congrArg some (by kernel_rfl))
  f24 := Tryz.func135.trans (congrArg some (by kernel_rfl))
  f25 := Tryz.func147.trans (congrArg some (by kernel_rfl))
  f26 := Tryz.func148.trans (congrArg some (by kernel_rfl))
  f27 := Tryz.func74.trans (congrArg some (by kernel_rfl))
  f28 := Tryz.func113.trans (congrArg some (by kernel_rfl))
  f29 := Tryz.func136.trans (congrArg some (by kernel_rfl))
  f30 := Tryz.func149.trans (congrArg some (by kernel_rfl))
  f31 := Tryz.func150.trans (congrArg some (by kernel_rfl))
  f32 := Tryz.func151.trans (congrArg some (by kernel_rfl))
  f33 := Tryz.func152.trans (congrArg some (by kernel_rfl))
  f34 := Tryz.func161.trans (congrArg some (by kernel_rfl))
  f35 := Tryz.func109.trans (congrArg some (by kernel_rfl))
  f36 := Tryz.func162.trans (congrArg some (by kernel_rfl))
  f37 := Tryz.func163.trans (congrArg some (by kernel_rfl))
  f38 := Tryz.func164.trans (congrArg some (by kernel_rfl))
  f39 := Tryz.func170.trans (congrArg some (by kernel_rfl))
  f40 := Tryz.func171.trans (congrArg some (by kernel_rfl))
  t0 := Tryz.underlying0
  a0 := Tryz.isAgg0
  z0 := Tryz.sizeOf0
  v0 := Tryz.zeroValue0
  i0 := by kernel_rfl
  t2 := Tryz.underlying2
  a2 := Tryz.isAgg2
  z2 := Tryz.sizeOf2
  v2 := Tryz.zeroValue2
  i2 := by kernel_rfl
  t3 := Tryz.underlying3
  a3 := Tryz.isAgg3
  z3 := Tryz.sizeOf3
  v3 := Tryz.zeroValue3
  i3 := by kernel_rfl
  t4 := Tryz.underlying4
  a4 := Tryz.isAgg4
  z4 := Tryz.sizeOf4
  v4 := Tryz.zeroValue4
  i4 := by kernel_rfl
  t5 := Tryz.underlying5
  a5 := Tryz.isAgg5
  z5 := Tryz.sizeOf5
  v5 := Tryz.zeroValue5
  i5 := by kernel_rfl
  t9 := Tryz.underlying9
  a9 := Tryz.isAgg9
  z9 := Tryz.sizeOf9
  v9 := Tryz.zeroValue9
  i9 := by kernel_rfl
  t20 := Tryz.underlying20
  a20 := Tryz.isAgg20
  z20 := Tryz.sizeOf20
  v20 := Tryz.zeroValue20
  i20 := by kernel_rfl
  t21 := Tryz.underlying21
  a21 := Tryz.isAgg21
  z21 := Tryz.sizeOf21
  v21 := Tryz.zeroValue21
  i21 := by kernel_rfl
  t22 := Tryz.underlying22
  a22 := Tryz.isAgg22
  z22 := Tryz.sizeOf22
  v22 := Tryz.zeroValue22
  i22 := by kernel_rfl
  t24 := Tryz.underlying83
  a24 := Tryz.isAgg83
  z24 := Tryz.sizeOf83
  v24 := Tryz.zeroValue83
  i24 := by kernel_rfl
  t25 := Tryz.underlying134
  a25 := Tryz.isAgg134
  z25 := Tryz.sizeOf134
  v25 := Tryz.zeroValue134
  i25 := by kernel_rfl
  t34 := Tryz.underlying141
  a34 := Tryz.isAgg141
  z34 := Tryz.sizeOf141
  v34 := Tryz.zeroValue141
  i34 := by kernel_rfl
  c34 := by kernel_rfl
  t36 := Tryz.underlying136
  a36 := Tryz.isAgg136
  z36 := Tryz.sizeOf136
  v36 := Tryz.zeroValue136
  i36 := by kernel_rfl
  t37 := Tryz.underlying122
  a37 := Tryz.isAgg122
  z37 := Tryz.sizeOf122
  v37 := Tryz.zeroValue122
  i37 := by kernel_rfl
  t39 := Tryz.underlying144
  a39 := Tryz.isAgg144
  z39 := Tryz.sizeOf144
  v39 := Tryz.zeroValue144
  i39 := by kernel_rfl
  t44 := Tryz.underlying158
  a44 := Tryz.isAgg158
  z44 := Tryz.sizeOf158
  v44 := Tryz.zeroValue158
  i44 := by kernel_rfl
  t47 := Tryz.underlying167
  a47 := Tryz.isAgg167
  z47 := Tryz.sizeOf167
  v47 := Tryz.zeroValue167
  i47 := by kernel_rfl
  t48 := Tryz.underlying170
  a48 := Tryz.isAgg170
  z48 := Tryz.sizeOf170
  v48 := Tryz.zeroValue170
  i48 := by kernel_rfl
  t50 := Tryz.underlying172
  a50 := Tryz.isAgg172
  z50 := Tryz.sizeOf172
  v50 := Tryz.zeroValue172
  i50 := by kernel_rfl
  t52 := Tryz.underlying160
  a52 := Tryz.isAgg160
  z52 := Tryz.sizeOf160
  v52 := Tryz.zeroValue160
  i52 := by kernel_rfl
  t55 := Tryz.underlying162
  a55 := Tryz.isAgg162
  z55 := Tryz.sizeOf162
  v55 := Tryz.zeroValue162
  i55 := by kernel_rfl
  t59 := Tryz.underlying174
  a59 := Tryz.isAgg174
  z59 := Tryz.sizeOf174
  v59 := Tryz.zeroValue174
  i59 := by kernel_rfl
  t60 := Tryz.underlying97
  a60 := Tryz.isAgg97
  z60 := Tryz.sizeOf97
  v60 := Tryz.zeroValue97
  i60 := by kernel_rfl
  t61 := Tryz.underlying175
  a61 := Tryz.isAgg175
  z61 := Tryz.sizeOf175
  t65 := Tryz.underlying184
  a65 := Tryz.isAgg184
  z65 := Tryz.sizeOf184
  v65 := Tryz.zeroValue184
  i65 := by kernel_rfl
  t66 := Tryz.underlying185
  a66 := Tryz.isAgg185
  z66 := Tryz.sizeOf185
  v66 := Tryz.zeroValue185
  i66 := by kernel_rfl
  t67 := Tryz.underlying153
  a67 := Tryz.isAgg153
  z67 := Tryz.sizeOf153
  v67 := Tryz.zeroValue153
  i67 := by kernel_rfl
  g0 := by kernel_rfl
  m0 := by kernel_rfl
  g1 := by kernel_rfl
  m1 := by kernel_rfl
  g2 := by kernel_rfl
  m2 := by kernel_rfl
  g3 := by kernel_rfl
  m3 := by kernel_rfl
  g4 := by kernel_rfl
  m4 := by kernel_rfl }
open Go.RowKit in
/-- strconv.ParseUint(s, 10, 8), AT EVERY STRING THAT SPELLS A uint8 ('Lib.parseUintB 8 s.data.toList = .ok u'): u, AND NO ERROR. (LAID: no walk: one application.) -/
theorem Tryz.strconv_ParseUint_10_at8_ok (s : ByteArray) (hmax : s.size ≤ 9223372036854775806) (u : Nat) (h : Lib.parseUintB 8 s.data.toList = .ok u) (w : World) :
    Calls Tryz.prog 124 #[.string s, .int .i64 10, .int .i64 8] w fun e w' => e = .returned (.tuple #[.int .u64 u, .nilIface]) ∧ (w' = w ∨ w' = Lib.bytesWorld w 5 s) := Any.strconv_ParseUint_10_at8_ok Tryz.laysPu14 s hmax u h w
open Go.RowKit in
theorem Tryz.strconv_ParseUint_10_at8_syntax_var (s : ByteArray) (hlim : s.size ≤ 281474976710656) (h : Lib.parseUintB 8 s.data.toList = Lib.parseUintB 8 []) (tp : TypeId) (p : Value) (w : World) (hvar : w.var? Tryz.prog "strconv.ErrSyntax" = some #[.iface tp p]) :
    Calls Tryz.prog 124 #[.string s, .int .i64 10, .int .i64 8] w fun e w' => ∃ N, e = .returned (.tuple #[.int .u64 0, .iface 144 (.pointer (some ⟨N, 0, none⟩))]) ∧ w.heap.size ≤ N ∧ w'.heap[N]? = some (.cells #[.string ⟨#[80, 97, 114, 115, 101, 85, 105, 110, 116]⟩, .string s, .iface tp p] 158 (0, 0)) ∧ Below w.heap.size w w' := Any.strconv_ParseUint_10_at8_syntax_var Tryz.laysPu14 s hlim h tp p w hvar
open Go.RowKit in
theorem Tryz.strconv_ParseUint_10_at8_range_var (s : ByteArray) (hlim : s.size ≤ 281474976710656) (h : Lib.parseUintB 8 s.data.toList = .range) (tp : TypeId) (p : Value) (w : World) (hvar : w.var? Tryz.prog "strconv.ErrRange" = some #[.iface tp p]) :
    Calls Tryz.prog 124 #[.string s, .int .i64 10, .int .i64 8] w fun e w' => ∃ N, e = .returned (.tuple #[.int .u64 255, .iface 144 (.pointer (some ⟨N, 0, none⟩))]) ∧ w.heap.size ≤ N ∧ w'.heap[N]? = some (.cells #[.string ⟨#[80, 97, 114, 115, 101, 85, 105, 110, 116]⟩, .string s, .iface tp p] 158 (0, 0)) ∧ Below w.heap.size w w' := Any.strconv_ParseUint_10_at8_range_var Tryz.laysPu14 s hlim h tp p w hvar
def Tryz.lays144_ren : Go.Shelf.Ren := ⟨fun | 144 => 98 | 143 => 122 | 219 => 130 | 217 => 143 | 225 => 144 | 224 => 145 | 267 => 146 | 266 => 159 | 314 => 160 | n => n, fun | 9 => 9 | 4 => 4 | 3 => 3 | 5 => 5 | 46 => 136 | 146 => 168 | 51 => 97 | n => n, fun | 1 => 0 | n => n⟩
theorem Tryz.lays144 : Go.Proofs.Lays.n144 Tryz.prog Tryz.lays144_ren := {
  mixed := by kernel_rfl
  f143 := Tryz.func122.trans (congrArg some (by kernel_rfl))
  f144 := Tryz.func98.trans (congrArg some (by kernel_rfl))
  f217 := Tryz.func143.trans (congrArg some (by kernel_rfl))
  f219 := Tryz.func130.trans (congrArg some (by kernel_rfl))
  f224 := Tryz.func145.trans (congrArg some (by kernel_rfl))
  f225 := Tryz.func144.trans (congrArg some (by kernel_rfl))
  f266 := Tryz.func159.trans (congrArg some (by kernel_rfl))
  f267 := Tryz.func146.trans (congrArg some (by kernel_rfl))
  f314 := Tryz.func160.trans (congrArg some (by kernel_rfl))
  t3 := Tryz.underlying3
  a3 := Tryz.isAgg3
  z3 := Tryz.sizeOf3
  v3 := Tryz.zeroValue3
  t4 := Tryz.underlying4
  a4 := Tryz.isAgg4
  z4 := Tryz.sizeOf4
  v4 := Tryz.zeroValue4
  t5 := Tryz.underlying5
  a5 := Tryz.isAgg5
  z5 := Tryz.sizeOf5
  v5 := Tryz.zeroValue5
  t9 := Tryz.underlying9
  a9 := Tryz.isAgg9
  z9 := Tryz.sizeOf9
  v9 := Tryz.zeroValue9
  t46 := Tryz.underlying136
  a46 := Tryz.isAgg136
  z46 := Tryz.sizeOf136
  v46 := Tryz.zeroValue136
  t51 := Tryz.underlying97
  a51 := Tryz.isAgg97
  z51 := Tryz.sizeOf97
  v51 := Tryz.zeroValue97
  t146 := Tryz.underlying168
  a146 := Tryz.isAgg168
  z146 := Tryz.sizeOf168
  v146 := Tryz.zeroValue168
  g1 := by kernel_rfl }
open Go.RowKit Go.Lib in
/-- strings.Contains: "Contains reports whether substr is within s.": AT A substr OF ONE BYTE c: IT RETURNS 'decide (0 ≤ Lib.indexByte s c)'; the world is as it was. (LAID: no walk: one application.) -/
theorem Tryz.strings_Contains_one (s : ByteArray) (c : UInt8) (w : World) :
    Calls Tryz.prog 98 #[.string s, .string ⟨#[c]⟩] w fun e w' => e = .returned (.bool (decide (0 ≤ Lib.indexByte s.data.toList c))) ∧ w' = w := Any.strings_Contains_one Tryz.lays144 s c w
def Tryz.lays145_ren : Go.Shelf.Ren := ⟨fun | 145 => 72 | 220 => 110 | 219 => 130 | 217 => 143 | 225 => 144 | 224 => 145 | 267 => 146 | 266 => 159 | 314 => 160 | n => n, fun | 9 => 9 | 4 => 4 | 59 => 80 | 3 => 3 | 5 => 5 | 46 => 136 | 146 => 168 | 51 => 97 | n => n, fun | 1 => 0 | n => n⟩
theorem Tryz.lays145 : Go.Proofs.Lays.n145 Tryz.prog Tryz.lays145_ren := {
  mixed := by kernel_rfl
  f145 := Tryz.func72.trans (congrArg some (by kernel_rfl))
  f217 := Tryz.func143.trans (congrArg some (by kernel_rfl))
  f219 := Tryz.func130.trans (congrArg some (by kernel_rfl))
  f220 := Tryz.func110.trans (congrArg some (by kernel_rfl))
  f224 := Tryz.func145.trans (congrArg some (by kernel_rfl))
  f225 := Tryz.func144.trans (congrArg some (by kernel_rfl))
  f266 := Tryz.func159.trans (congrArg some (by kernel_rfl))
  f267 := Tryz.func146.trans (congrArg some (by kernel_rfl))
  f314 := Tryz.func160.trans (congrArg some (by kernel_rfl))
  t3 := Tryz.underlying3
  a3 := Tryz.isAgg3
  z3 := Tryz.sizeOf3
  v3 := Tryz.zeroValue3
  t4 := Tryz.underlying4
  a4 := Tryz.isAgg4
  z4 := Tryz.sizeOf4
  v4 := Tryz.zeroValue4
  t5 := Tryz.underlying5
  a5 := Tryz.isAgg5
  z5 := Tryz.sizeOf5
  v5 := Tryz.zeroValue5
  t9 := Tryz.underlying9
  a9 := Tryz.isAgg9
  z9 := Tryz.sizeOf9
  v9 := Tryz.zeroValue9
  t46 := Tryz.underlying136
  a46 := Tryz.isAgg136
  z46 := Tryz.sizeOf136
  v46 := Tryz.zeroValue136
  t51 := Tryz.underlying97
  a51 := Tryz.isAgg97
  z51 := Tryz.sizeOf97
  v51 := Tryz.zeroValue97
  t59 := Tryz.underlying80
  a59 := Tryz.isAgg80
  z59 := Tryz.sizeOf80
  v59 := Tryz.zeroValue80
  t146 := Tryz.underlying168
  a146 := Tryz.isAgg168
  z146 := Tryz.sizeOf168
  v146 := Tryz.zeroValue168
  g1 := by kernel_rfl }
open Go.RowKit Go.Lib in
/-- strings.Cut: "Cut slices s around the first instance of sep, returning the text before and after sep. The found result reports whether sep appears in s. If sep does not appear in s, cut returns s, "", false.": IT RETURNS 'Lib.cut s sep'; the world is as it was but for the count of draws. (LAID: no walk: one application.) -/
theorem Tryz.strings_Cut (s sep : ByteArray) (m : Int) (w : World) (hs : s.size < 4294967281) (hm : w.cell? ⟨0, 0, none⟩ = some (.int .i64 m)) :
    Calls Tryz.prog 72 #[.string s, .string sep] w fun e w' => e = .returned (.tuple #[.string ⟨(Lib.cut s.data.toList sep.data.toList).1.toArray⟩, .string ⟨(Lib.cut s.data.toList sep.data.toList).2.1.toArray⟩, .bool (Lib.cut s.data.toList sep.data.toList).2.2]) ∧ ∃ n, w' = w.drewN n := Any.strings_Cut Tryz.lays145 s sep m w hs hm
def Tryz.lays146_ren : Go.Shelf.Ren := ⟨fun | 146 => 123 | 221 => 137 | 268 => 153 | 138 => 154 | 143 => 122 | 195 => 165 | 197 => 166 | 218 => 167 | 219 => 130 | 260 => 172 | 217 => 143 | 225 => 144 | 224 => 145 | 267 => 146 | 266 => 159 | 314 => 160 | n => n, fun | 9 => 9 | 31 => 132 | 3 => 3 | 4 => 4 | 0 => 0 | 105 => 178 | 21 => 21 | 5 => 5 | 46 => 136 | 119 => 186 | 139 => 189 | 138 => 188 | 146 => 168 | 51 => 97 | n => n, fun | 1 => 0 | 3 => 6 | 4 => 7 | n => n⟩
theorem Tryz.lays146 : Go.Proofs.Lays.n146 Tryz.prog Tryz.lays146_ren := {
  mixed := by kernel_rfl
  f138 := Tryz.func154.trans (congrArg some (by kernel_rfl))
  f143 := Tryz.func122.trans (congrArg some (by kernel_rfl))
  f146 := Tryz.func123.trans (congrArg some (by kernel_rfl))
  f195 := Tryz.func165.trans (congrArg some (by kernel_rfl))
  f197 := Tryz.func166.trans (congrArg some (by kernel_rfl))
  f217 := Tryz.func143.trans (congrArg some (by kernel_rfl))
  f218 := Tryz.func167.trans (congrArg some (by kernel_rfl))
  f219 := Tryz.func130.trans (congrArg some (by kernel_rfl))
  f221 := Tryz.func137.trans (congrArg some (by kernel_rfl))
  f224 := Tryz.func145.trans (congrArg some (by kernel_rfl))
  f225 := Tryz.func144.trans (congrArg some (by kernel_rfl))
  f260 := Tryz.func172.trans (congrArg some (by kernel_rfl))
  f266 := Tryz.func159.trans (congrArg some (by kernel_rfl))
  f267 := Tryz.func146.trans (congrArg some (by kernel_rfl))
  f268 := Tryz.func153.trans (congrArg some (by kernel_rfl))
  f314 := Tryz.func160.trans (congrArg some (by kernel_rfl))
  t0 := Tryz.underlying0
  a0 := Tryz.isAgg0
  z0 := Tryz.sizeOf0
  v0 := Tryz.zeroValue0
  t3 := Tryz.underlying3
  a3 := Tryz.isAgg3
  z3 := Tryz.sizeOf3
  v3 := Tryz.zeroValue3
  t4 := Tryz.underlying4
  a4 := Tryz.isAgg4
  z4 := Tryz.sizeOf4
  v4 := Tryz.zeroValue4
  t5 := Tryz.underlying5
  a5 := Tryz.isAgg5
  z5 := Tryz.sizeOf5
  v5 := Tryz.zeroValue5
  t9 := Tryz.underlying9
  a9 := Tryz.isAgg9
  z9 := Tryz.sizeOf9
  v9 := Tryz.zeroValue9
  t21 := Tryz.underlying21
  a21 := Tryz.isAgg21
  z21 := Tryz.sizeOf21
  v21 := Tryz.zeroValue21
  t31 := Tryz.underlying132
  a31 := Tryz.isAgg132
  z31 := Tryz.sizeOf132
  v31 := Tryz.zeroValue132
  t46 := Tryz.underlying136
  a46 := Tryz.isAgg136
  z46 := Tryz.sizeOf136
  v46 := Tryz.zeroValue136
  t51 := Tryz.underlying97
  a51 := Tryz.isAgg97
  z51 := Tryz.sizeOf97
  v51 := Tryz.zeroValue97
  t105 := Tryz.underlying178
  a105 := Tryz.isAgg178
  z105 := Tryz.sizeOf178
  v105 := Tryz.zeroValue178
  t119 := Tryz.underlying186
  a119 := Tryz.isAgg186
  z119 := Tryz.sizeOf186
  t138 := Tryz.underlying188
  a138 := Tryz.isAgg188
  z138 := Tryz.sizeOf188
  v138 := Tryz.zeroValue188
  t139 := Tryz.underlying189
  a139 := Tryz.isAgg189
  z139 := Tryz.sizeOf189
  v139 := Tryz.zeroValue189
  t146 := Tryz.underlying168
  a146 := Tryz.isAgg168
  z146 := Tryz.sizeOf168
  v146 := Tryz.zeroValue168
  g1 := by kernel_rfl
  g3 := by kernel_rfl
  g4 := by kernel_rfl }
open Go.RowKit Go.Lib in
/-- strings.Split. (LAID: no walk: one application.) -/
theorem Tryz.strings_Split (s sep : ByteArray) (m : Int) (w : World) (hs : s.size < 4294967281) (hm : w.cell? ⟨0, 0, none⟩ = some (.int .i64 m)) (h1 : 1 ≤ sep.size) :
    Calls Tryz.prog 123 #[.string s, .string sep] w fun e w' =>
      e = .returned (.slice (some ⟨w.heap.size, 0, none⟩) (Lib.countB s sep + 1) (Lib.countB s sep + 1)) ∧ w' = w.alloc (.cells ((Lib.splitB sep 0 (Lib.countB s sep) s).map Value.string).toArray 9) := Any.strings_Split Tryz.lays146 (by kernel_rfl) s sep m w hs hm h1
end Go.Proofs
