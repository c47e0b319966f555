import Derived.Shelf.Strings.Builder1
import Derived.Shelf.Strings.Builder2
import Derived.Shelf.Strings.OnBuilder
import Derived.Shelf.Strings.Trim
import Derived.Shelf.Small.Utf8
import Derived.Shelf.Small.Strs
import Derived.Shelf.Small.Wraps
import Derived.Shelf.Strings.BuilderF
import Derived.Shelf.Strings.BuilderK
import Derived.Shelf.Strings.BuilderRune
import Derived.Shelf.Strconv.Atoi
import Derived.Shelf.Strconv.Itoa0
import Derived.Shelf.Strconv.Itoa1
import Derived.Shelf.LaysM
import Derived.Shelf.Strconv.Itoa2
import Derived.Shelf.Strconv.Itoa3
import Derived.Shelf.Strconv.AtoiErrFast
import Derived.Shelf.Strconv.ParseIntEmpty
import Derived.Shelf.Strconv.AtoiFail
import Derived.Shelf.Strconv.Clone
import Derived.Shelf.Strconv.SyntaxError
import Derived.Shelf.LaysC
import Derived.Shelf.Strconv.ToError
import Derived.Shelf.Strconv.AtoiErr
import Derived.Shelf.Strconv.ErrVar
import Derived.Shelf.Strconv.Lower
import Derived.Shelf.Strconv.ParseUint10
import Derived.Shelf.Strconv.ParseUint10Empty
import Derived.Shelf.Strconv.ParseUint10Any
import Derived.Shelf.Strconv.ParseInt10
import Derived.Shelf.Strconv.AtoiLong
import Derived.Shelf.Strconv.AtoiInnerAll
import Derived.Shelf.Strconv.RangeError
import Derived.Shelf.Strconv.ToErrorRange
import Derived.Shelf.Strconv.AtoiAll
import Derived.Shelf.Strconv.ErrVarAll
import Derived.Shelf.Strings.Search1
import Derived.Shelf.Strings.Search2
import Derived.Shelf.Strings.Search3
import Derived.Shelf.Strings.Count
import Derived.Shelf.Strings.Shaped
import Derived.Shelf.GgClosure.StringsIndexFunc
import Derived.Ground.GgwProg
import Derived.Shelf.GgClosure.StringsIndexFuncTop
import Derived.Shelf.GgClosure.StringsRunes
import Derived.Shelf.Strings.Prefix
import Derived.Shelf.Strings.Split
import Derived.Shelf.Strings.Replace
import Derived.Shelf.Strings.SplitShaped
import Derived.Shelf.Unicode.Latin
import Derived.Shelf.Strings.Runes
import Derived.Shelf.Strings.IndexAny
import Derived.Shelf.Strings.AsciiSet
import Derived.Shelf.Strings.IndexAnyAll
import Derived.Shelf.Unicode.DecodeSlow
import Derived.Shelf.Unicode.DecodeAny
import Derived.Shelf.Unicode.DecodeLast
import Derived.Shelf.Unicode.CaseLookup
import Derived.Shelf.Unicode.CaseConvert
import Derived.Shelf.Unicode.CaseTo
import Derived.Shelf.Unicode.CaseLaid
import Derived.Shelf.Strings.MapAny
import Derived.Shelf.Strings.CaseAny
import Derived.Shelf.Strings.FuncGrows
import Derived.Test.YtejbbceidnaloaaGreatDoorProg
set_option linter.unusedVariables false
set_option linter.unusedSimpArgs false
set_option maxRecDepth 100000
set_option maxHeartbeats 8000000
namespace Go.Proofs
open Go.Shelf
def Tryz.lays158_ren : Go.Shelf.Ren := ⟨fun | 158 => 136 | 165 => 139 | 166 => 59 | 167 => 58 | 169 => 51 | 230 => 170 | 203 => 171 | 240 => 97 | 241 => 174 | 197 => 141 | 118 => 198 | 168 => 199 | 270 => 200 | 262 => 201 | 276 => 137 | 277 => 202 | 260 => 176 | 242 => 216 | 313 => 217 | 278 => 230 | 274 => 231 | 275 => 232 | n => n, fun | 9 => 9 | 4 => 4 | 3 => 3 | 5 => 5 | 72 => 85 | 0 => 0 | 76 => 101 | 75 => 99 | 107 => 184 | 70 => 82 | 20 => 20 | 37 => 83 | 127 => 120 | 21 => 21 | 105 => 164 | 164 => 162 | 162 => 214 | 203 => 212 | 119 => 201 | 46 => 191 | 139 => 204 | 138 => 203 | 51 => 215 | 160 => 227 | 208 => 239 | 206 => 237 | 80 => 89 | n => n, fun | 13 => 6 | 3 => 4 | 4 => 5 | n => n⟩
theorem Tryz.lays158 : Go.Proofs.Lays.n158 Tryz.prog Tryz.lays158_ren := {
 mixed := by kernel_rfl
 f118 := Tryz.func198.trans (congrArg some (by kernel_rfl))
 f158 := Tryz.func136.trans (congrArg some (by kernel_rfl))
 f165 := Tryz.func139.trans (congrArg some (by kernel_rfl))
 f166 := Tryz.func59.trans (congrArg some (by kernel_rfl))
 f167 := Tryz.func58.trans (congrArg some (by kernel_rfl))
 f168 := Tryz.func199.trans (congrArg some (by kernel_rfl))
 f169 := Tryz.func51.trans (congrArg some (by kernel_rfl))
 f197 := Tryz.func141.trans (congrArg some (by kernel_rfl))
 f203 := Tryz.func171.trans (congrArg some (by kernel_rfl))
 f230 := Tryz.func170.trans (congrArg some (by kernel_rfl))
 f240 := Tryz.func97.trans (congrArg some (by kernel_rfl))
 f241 := Tryz.func174.trans (congrArg some (by kernel_rfl))
 f242 := Tryz.func216.trans (congrArg some (by kernel_rfl))
 f260 := Tryz.func176.trans (congrArg some (by kernel_rfl))
 f262 := Tryz.func201.trans (congrArg some (by kernel_rfl))
 f270 := Tryz.func200.trans (congrArg some (by kernel_rfl))
 f274 := Tryz.func231.trans (congrArg some (by kernel_rfl))
 f275 := Tryz.func232.trans (congrArg some (by kernel_rfl))
 f276 := Tryz.func137.trans (congrArg some (by kernel_rfl))
 f277 := Tryz.func202.trans (congrArg some (by kernel_rfl))
 f278 := Tryz.func230.trans (congrArg some (by kernel_rfl))
 f313 := Tryz.func217.trans (congrArg some (by kernel_rfl))
 t0 := Tryz.underlying0
 a0 := Tryz.isAgg0
 z0 := Tryz.sizeOf0
 v0 := Tryz.zeroValue0
 t3 := Tryz.underlying3
 a3 := Tryz.isAgg3
 z3 := Tryz.sizeOf3
 v3 := Tryz.zeroValue3
 t4 := Tryz.underlying4
 a4 := Tryz.isAgg4
 z4 := Tryz.sizeOf4
 v4 := Tryz.zeroValue4
 t5 := Tryz.underlying5
 a5 := Tryz.isAgg5
 z5 := Tryz.sizeOf5
 v5 := Tryz.zeroValue5
 t9 := Tryz.underlying9
 a9 := Tryz.isAgg9
 z9 := Tryz.sizeOf9
 v9 := Tryz.zeroValue9
 t20 := Tryz.underlying20
 a20 := Tryz.isAgg20
 z20 := Tryz.sizeOf20
 v20 := Tryz.zeroValue20
 t21 := Tryz.underlying21
 a21 := Tryz.isAgg21
 z21 := Tryz.sizeOf21
 v21 := Tryz.zeroValue21
 t37 := Tryz.underlying83
 a37 := Tryz.isAgg83
 z37 := Tryz.sizeOf83
 v37 := Tryz.zeroValue83
 t46 := Tryz.underlying191
 a46 := Tryz.isAgg191
 z46 := Tryz.sizeOf191
 v46 := Tryz.zeroValue191
 t51 := Tryz.underlying215
 a51 := Tryz.isAgg215
 z51 := Tryz.sizeOf215
 v51 := Tryz.zeroValue215
 t70 := Tryz.underlying82
 a70 := Tryz.isAgg82
 z70 := Tryz.sizeOf82
 v70 := Tryz.zeroValue82
 t72 := Tryz.underlying85
 a72 := Tryz.isAgg85
 z72 := Tryz.sizeOf85
 v72 := Tryz.zeroValue85
 t75 := Tryz.underlying99
 a75 := Tryz.isAgg99
 z75 := Tryz.sizeOf99
 v75 := Tryz.zeroValue99
 t76 := Tryz.underlying101
 a76 := Tryz.isAgg101
 z76 := Tryz.sizeOf101
 v76 := Tryz.zeroValue101
 t105 := Tryz.underlying164
 a105 := Tryz.isAgg164
 z105 := Tryz.sizeOf164
 v105 := Tryz.zeroValue164
 t107 := Tryz.underlying184
 a107 := Tryz.isAgg184
 z107 := Tryz.sizeOf184
 v107 := Tryz.zeroValue184
 t119 := Tryz.underlying201
 a119 := Tryz.isAgg201
 z119 := Tryz.sizeOf201
 t127 := Tryz.underlying120
 a127 := Tryz.isAgg120
 z127 := Tryz.sizeOf120
 v127 := Tryz.zeroValue120
 t138 := Tryz.underlying203
 a138 := Tryz.isAgg203
 z138 := Tryz.sizeOf203
 v138 := Tryz.zeroValue203
 t139 := Tryz.underlying204
 a139 := Tryz.isAgg204
 z139 := Tryz.sizeOf204
 v139 := Tryz.zeroValue204
 t160 := Tryz.underlying227
 a160 := Tryz.isAgg227
 z160 := Tryz.sizeOf227
 v160 := Tryz.zeroValue227
 t162 := Tryz.underlying214
 a162 := Tryz.isAgg214
 z162 := Tryz.sizeOf214
 v162 := Tryz.zeroValue214
 t164 := Tryz.underlying162
 a164 := Tryz.isAgg162
 z164 := Tryz.sizeOf162
 v164 := Tryz.zeroValue162
 t203 := Tryz.underlying212
 a203 := Tryz.isAgg212
 z203 := Tryz.sizeOf212
 v203 := Tryz.zeroValue212
 t206 := Tryz.underlying237
 a206 := Tryz.isAgg237
 z206 := Tryz.sizeOf237
 v206 := Tryz.zeroValue237
 t208 := Tryz.underlying239
 a208 := Tryz.isAgg239
 z208 := Tryz.sizeOf239
 v208 := Tryz.zeroValue239
 g3 := by kernel_rfl
 g4 := by kernel_rfl
 g13 := by kernel_rfl }
theorem Tryz.Builder_Extra_158 : Builder.Extra Tryz.prog Tryz.lays158_ren := {
 sizeBuilder := by kernel_rfl
 liesBuilder := by kernel_rfl
 t5 := Tryz.underlying5
 a5 := Tryz.isAgg5
 z5 := Tryz.sizeOf5
 v5 := Tryz.zeroValue5
 infoByte := by kernel_rfl
 cellsByte := by kernel_rfl
 sizeByte := by kernel_rfl
 neB5 := by decide }
open Go.RowKit in
theorem Tryz.strings_ToUpper_ascii (s : ByteArray) (w : World) (hs : s.size ≤ 140737488355328) (hascii : ∀ (j : Nat) (b : UInt8), s.data.toList[j]? = some b → b.toNat < 128) :
 Calls Tryz.prog 136 #[.string s] w fun e w' => e = .returned (.string ⟨(Lib.toUpperA s.data.toList).toArray⟩) ∧ Below w.heap.size w w' := Any.strings_ToUpper_ascii Tryz.lays158 Tryz.Builder_Extra_158 s w hs hascii
def Tryz.lays162_ren : Go.Shelf.Ren := ⟨fun | 162 => 213 | 232 => 223 | 227 => 153 | 234 => 224 | 236 => 225 | 228 => 154 | 271 => 235 | 151 => 236 | 120 => 244 | 197 => 141 | 152 => 151 | 260 => 176 | 137 => 92 | 119 => 190 | 224 => 191 | 225 => 192 | 217 => 132 | 266 => 165 | n => n, fun | 9 => 9 | 4 => 4 | 3 => 3 | 5 => 5 | 117 => 172 | 116 => 171 | 0 => 0 | 124 => 192 | 21 => 21 | 105 => 164 | 46 => 191 | 119 => 201 | 139 => 204 | 138 => 203 | n => n, fun | 3 => 4 | 4 => 5 | n => n⟩
theorem Tryz.lays162 : Go.Proofs.Lays.n162 Tryz.prog Tryz.lays162_ren := {
 mixed := by kernel_rfl
 f119 := Tryz.func190.trans (congrArg some (by kernel_rfl))
 f120 := Tryz.func244.trans (congrArg some (by kernel_rfl))
 f137 := Tryz.func92.trans (congrArg some (by kernel_rfl))
 f151 := Tryz.func236.trans (congrArg some (by kernel_rfl))
 f152 := Tryz.func151.trans (congrArg some (by kernel_rfl))
 f162 := Tryz.func213.trans (congrArg some (by kernel_rfl))
 f197 := Tryz.func141.trans (congrArg some (by kernel_rfl))
 f217 := Tryz.func132.trans (congrArg some (by kernel_rfl))
 f224 := Tryz.func191.trans (congrArg some (by kernel_rfl))
 f225 := Tryz.func192.trans (congrArg some (by kernel_rfl))
 f227 := Tryz.func153.trans (congrArg some (by kernel_rfl))
 f228 := Tryz.func154.trans (congrArg some (by kernel_rfl))
 f232 := Tryz.func223.trans (congrArg some (by kernel_rfl))
 f234 := Tryz.func224.trans (congrArg some (by kernel_rfl))
 f236 := Tryz.func225.trans (congrArg some (by kernel_rfl))
 f260 := Tryz.func176.trans (congrArg some (by kernel_rfl))
 f266 := Tryz.func165.trans (congrArg some (by kernel_rfl))
 f271 := Tryz.func235.trans (congrArg some (by kernel_rfl))
 t0 := Tryz.underlying0
 a0 := Tryz.isAgg0
 z0 := Tryz.sizeOf0
 v0 := Tryz.zeroValue0
 t3 := Tryz.underlying3
 a3 := Tryz.isAgg3
 z3 := Tryz.sizeOf3
 v3 := Tryz.zeroValue3
 t4 := Tryz.underlying4
 a4 := Tryz.isAgg4
 z4 := Tryz.sizeOf4
 v4 := Tryz.zeroValue4
 t5 := Tryz.underlying5
 a5 := Tryz.isAgg5
 z5 := Tryz.sizeOf5
 v5 := Tryz.zeroValue5
 t9 := Tryz.underlying9
 a9 := Tryz.isAgg9
 z9 := Tryz.sizeOf9
 v9 := Tryz.zeroValue9
 t21 := Tryz.underlying21
 a21 := Tryz.isAgg21
 z21 := Tryz.sizeOf21
 v21 := Tryz.zeroValue21
 t46 := Tryz.underlying191
 a46 := Tryz.isAgg191
 z46 := Tryz.sizeOf191
 v46 := Tryz.zeroValue191
 t105 := Tryz.underlying164
 a105 := Tryz.isAgg164
 z105 := Tryz.sizeOf164
 v105 := Tryz.zeroValue164
 t116 := Tryz.underlying171
 a116 := Tryz.isAgg171
 z116 := Tryz.sizeOf171
 t117 := Tryz.underlying172
 a117 := Tryz.isAgg172
 z117 := Tryz.sizeOf172
 v117 := Tryz.zeroValue172
 t119 := Tryz.underlying201
 a119 := Tryz.isAgg201
 z119 := Tryz.sizeOf201
 t124 := Tryz.underlying192
 a124 := Tryz.isAgg192
 z124 := Tryz.sizeOf192
 v124 := Tryz.zeroValue192
 t138 := Tryz.underlying203
 a138 := Tryz.isAgg203
 z138 := Tryz.sizeOf203
 v138 := Tryz.zeroValue203
 t139 := Tryz.underlying204
 a139 := Tryz.isAgg204
 z139 := Tryz.sizeOf204
 v139 := Tryz.zeroValue204
 g3 := by kernel_rfl
 g4 := by kernel_rfl }
open Go.RowKit in
theorem Tryz.strings_TrimRight_one (s : ByteArray) (c : UInt8) (hc : c.toNat < 128) (w : World) (hs : s.size ≤ 9223372036854775807) :
 Calls Tryz.prog 213 #[.string s, .string ⟨#[c]⟩] w fun e w' => e = .returned (.string ⟨(Lib.trimRightB s.data.toList c).toArray⟩) ∧ w' = w := Any.strings_TrimRight_one Tryz.lays162 s c hc w hs
def Tryz.lays137_ren : Go.Shelf.Ren := ⟨fun | 137 => 92 | 217 => 132 | 266 => 165 | n => n, fun | 9 => 9 | 5 => 5 | 3 => 3 | n => n, fun | n => n⟩
theorem Tryz.lays137 : Go.Proofs.Lays.n137 Tryz.prog Tryz.lays137_ren := {
 mixed := by kernel_rfl
 f137 := Tryz.func92.trans (congrArg some (by kernel_rfl))
 f217 := Tryz.func132.trans (congrArg some (by kernel_rfl))
 f266 := Tryz.func165.trans (congrArg some (by kernel_rfl))
 t3 := Tryz.underlying3
 a3 := Tryz.isAgg3
 z3 := Tryz.sizeOf3
 v3 := Tryz.zeroValue3
 t5 := Tryz.underlying5
 a5 := Tryz.isAgg5
 z5 := Tryz.sizeOf5
 v5 := Tryz.zeroValue5
 t9 := Tryz.underlying9
 a9 := Tryz.isAgg9
 z9 := Tryz.sizeOf9
 v9 := Tryz.zeroValue9 }
open Go.RowKit in
theorem Tryz.strings_IndexByte (s : ByteArray) (c : Int) (w : World) :
 Calls Tryz.prog 92 #[.string s, .int .u8 c] w fun e w' => e = .returned (.int .i64 (Lib.indexByte s.data.toList c.toNat.toUInt8)) ∧ w' = w := Any.strings_IndexByte Tryz.lays137 s c w
def Tryz.laysM171_ren : Go.Shelf.Ren := ⟨fun | 171 => 150 | 243 => 189 | 246 => 214 | 283 => 226 | 284 => 227 | 285 => 228 | 286 => 229 | 129 => 238 | 317 => 237 | 318 => 239 | 319 => 240 | 320 => 241 | 337 => 245 | 338 => 246 | n => n, fun | 3 => 3 | 9 => 9 | 2 => 2 | 4 => 4 | 171 => 222 | 0 => 0 | 53 => 175 | 37 => 83 | 5 => 5 | 173 => 225 | 212 => 233 | 51 => 215 | 20 => 20 | 213 => 234 | 46 => 191 | 232 => 248 | 233 => 249 | n => n, fun | 17 => 7 | 18 => 8 | 19 => 9 | n => n⟩
theorem Tryz.laysM171 : Go.Proofs.LaysM.n171 Tryz.prog Tryz.laysM171_ren := {
 mixed := by kernel_rfl
 f129 := Tryz.func238.trans (congrArg some (by kernel_rfl))
 f171 := Tryz.func150.trans (congrArg some (by kernel_rfl))
 f243 := Tryz.func189.trans (congrArg some (by kernel_rfl))
 f246 := Tryz.func214.trans (congrArg some (by kernel_rfl))
 f283 := Tryz.func226.trans (congrArg some (by kernel_rfl))
 f284 := Tryz.func227.trans (congrArg some (by kernel_rfl))
 f285 := Tryz.func228.trans (congrArg some (by kernel_rfl))
 f286 := Tryz.func229.trans (congrArg some (by kernel_rfl))
 f317 := Tryz.func237.trans (congrArg some (by kernel_rfl))
 f318 := Tryz.func239.trans (congrArg some (by kernel_rfl))
 f319 := Tryz.func240.trans (congrArg some (by kernel_rfl))
 f320 := Tryz.func241.trans (congrArg some (by kernel_rfl))
 f337 := Tryz.func245.trans (congrArg some (by kernel_rfl))
 f338 := Tryz.func246.trans (congrArg some (by kernel_rfl))
 t0 := Tryz.underlying0
 a0 := Tryz.isAgg0
 z0 := Tryz.sizeOf0
 v0 := Tryz.zeroValue0
 t2 := Tryz.underlying2
 a2 := Tryz.isAgg2
 z2 := Tryz.sizeOf2
 v2 := Tryz.zeroValue2
 t3 := Tryz.underlying3
 a3 := Tryz.isAgg3
 z3 := Tryz.sizeOf3
 v3 := Tryz.zeroValue3
 t4 := Tryz.underlying4
 a4 := Tryz.isAgg4
 z4 := Tryz.sizeOf4
 v4 := Tryz.zeroValue4
 t5 := Tryz.underlying5
 a5 := Tryz.isAgg5
 z5 := Tryz.sizeOf5
 v5 := Tryz.zeroValue5
 t9 := Tryz.underlying9
 a9 := Tryz.isAgg9
 z9 := Tryz.sizeOf9
 v9 := Tryz.zeroValue9
 t20 := Tryz.underlying20
 a20 := Tryz.isAgg20
 z20 := Tryz.sizeOf20
 v20 := Tryz.zeroValue20
 t37 := Tryz.underlying83
 a37 := Tryz.isAgg83
 z37 := Tryz.sizeOf83
 v37 := Tryz.zeroValue83
 t46 := Tryz.underlying191
 a46 := Tryz.isAgg191
 z46 := Tryz.sizeOf191
 v46 := Tryz.zeroValue191
 t51 := Tryz.underlying215
 a51 := Tryz.isAgg215
 z51 := Tryz.sizeOf215
 v51 := Tryz.zeroValue215
 t53 := Tryz.underlying175
 a53 := Tryz.isAgg175
 z53 := Tryz.sizeOf175
 v53 := Tryz.zeroValue175
 t171 := Tryz.underlying222
 a171 := Tryz.isAgg222
 z171 := Tryz.sizeOf222
 v171 := Tryz.zeroValue222
 t173 := Tryz.underlying225
 a173 := Tryz.isAgg225
 z173 := Tryz.sizeOf225
 v173 := Tryz.zeroValue225
 t212 := Tryz.underlying233
 a212 := Tryz.isAgg233
 z212 := Tryz.sizeOf233
 v212 := Tryz.zeroValue233
 t213 := Tryz.underlying234
 a213 := Tryz.isAgg234
 z213 := Tryz.sizeOf234
 t232 := Tryz.underlying248
 a232 := Tryz.isAgg248
 z232 := Tryz.sizeOf248
 v232 := Tryz.zeroValue248
 t233 := Tryz.underlying249
 a233 := Tryz.isAgg249
 z233 := Tryz.sizeOf249
 v233 := Tryz.zeroValue249
 g17 := by kernel_rfl
 g18 := by kernel_rfl
 g19 := by kernel_rfl
 i0 := by kernel_rfl
 i2 := by kernel_rfl
 i3 := by kernel_rfl
 i4 := by kernel_rfl
 i5 := by kernel_rfl
 i9 := by kernel_rfl
 i20 := by kernel_rfl
 i37 := by kernel_rfl
 i46 := by kernel_rfl
 i51 := by kernel_rfl
 i53 := by kernel_rfl
 i171 := by kernel_rfl
 i173 := by kernel_rfl
 i212 := by kernel_rfl
 i232 := by kernel_rfl
 i233 := by kernel_rfl
 m17 := by kernel_rfl
 m18 := by kernel_rfl
 m19 := by kernel_rfl }
open Go.RowKit Go.Sort Go.Lib in
theorem Tryz.strconv_Itoa (n : Int) (h0 : -9223372036854775808 ≤ n) (h1 : n ≤ 9223372036854775807) (w : World) (htab : Lib.TabIs Tryz.prog w "internal/strconv.uint64pow10" .u64 Lib.pow10Tab) :
 Calls Tryz.prog 150 #[.int .i64 n] w fun e w' => e = .returned (.string ⟨(Lib.itoa n).toArray⟩) ∧ ∃ k os, w' = grow (w.drewN k) os := Any.strconv_Itoa Tryz.laysM171 n h0 h1 w htab
def Tryz.lays171_ren : Go.Shelf.Ren := ⟨fun | 171 => 150 | 243 => 189 | 246 => 214 | 283 => 226 | 284 => 227 | 285 => 228 | 286 => 229 | 129 => 238 | 317 => 237 | 318 => 239 | 319 => 240 | 320 => 241 | 337 => 245 | 338 => 246 | n => n, fun | 3 => 3 | 9 => 9 | 2 => 2 | 4 => 4 | 171 => 222 | 0 => 0 | 53 => 175 | 37 => 83 | 5 => 5 | 173 => 225 | 212 => 233 | 51 => 215 | 20 => 20 | 213 => 234 | 46 => 191 | 232 => 248 | 233 => 249 | n => n, fun | 17 => 7 | 18 => 8 | 19 => 9 | n => n⟩
theorem Tryz.lays171 : Go.Proofs.Lays.n171 Tryz.prog Tryz.lays171_ren := {
 mixed := by kernel_rfl
 f129 := Tryz.func238.trans (congrArg some (by kernel_rfl))
 f171 := Tryz.func150.trans (congrArg some (by kernel_rfl))
 f243 := Tryz.func189.trans (congrArg some (by kernel_rfl))
 f246 := Tryz.func214.trans (congrArg some (by kernel_rfl))
 f283 := Tryz.func226.trans (congrArg some (by kernel_rfl))
 f284 := Tryz.func227.trans (congrArg some (by kernel_rfl))
 f285 := Tryz.func228.trans (congrArg some (by kernel_rfl))
 f286 := Tryz.func229.trans (congrArg some (by kernel_rfl))
 f317 := Tryz.func237.trans (congrArg some (by kernel_rfl))
 f318 := Tryz.func239.trans (congrArg some (by kernel_rfl))
 f319 := Tryz.func240.trans (congrArg some (by kernel_rfl))
 f320 := Tryz.func241.trans (congrArg some (by kernel_rfl))
 f337 := Tryz.func245.trans (congrArg some (by kernel_rfl))
 f338 := Tryz.func246.trans (congrArg some (by kernel_rfl))
 t0 := Tryz.underlying0
 a0 := Tryz.isAgg0
 z0 := Tryz.sizeOf0
 v0 := Tryz.zeroValue0
 t2 := Tryz.underlying2
 a2 := Tryz.isAgg2
 z2 := Tryz.sizeOf2
 v2 := Tryz.zeroValue2
 t3 := Tryz.underlying3
 a3 := Tryz.isAgg3
 z3 := Tryz.sizeOf3
 v3 := Tryz.zeroValue3
 t4 := Tryz.underlying4
 a4 := Tryz.isAgg4
 z4 := Tryz.sizeOf4
 v4 := Tryz.zeroValue4
 t5 := Tryz.underlying5
 a5 := Tryz.isAgg5
 z5 := Tryz.sizeOf5
 v5 := Tryz.zeroValue5
 t9 := Tryz.underlying9
 a9 := Tryz.isAgg9
 z9 := Tryz.sizeOf9
 v9 := Tryz.zeroValue9
 t20 := Tryz.underlying20
 a20 := Tryz.isAgg20
 z20 := Tryz.sizeOf20
 v20 := Tryz.zeroValue20
 t37 := Tryz.underlying83
 a37 := Tryz.isAgg83
 z37 := Tryz.sizeOf83
 v37 := Tryz.zeroValue83
 t46 := Tryz.underlying191
 a46 := Tryz.isAgg191
 z46 := Tryz.sizeOf191
 v46 := Tryz.zeroValue191
 t51 := Tryz.underlying215
 a51 := Tryz.isAgg215
 z51 := Tryz.sizeOf215
 v51 := Tryz.zeroValue215
 t53 := Tryz.underlying175
 a53 := Tryz.isAgg175
 z53 := Tryz.sizeOf175
 v53 := Tryz.zeroValue175
 t171 := Tryz.underlying222
 a171 := Tryz.isAgg222
 z171 := Tryz.sizeOf222
 v171 := Tryz.zeroValue222
 t173 := Tryz.underlying225
 a173 := Tryz.isAgg225
 z173 := Tryz.sizeOf225
 v173 := Tryz.zeroValue225
 t212 := Tryz.underlying233
 a212 := Tryz.isAgg233
 z212 := Tryz.sizeOf233
 v212 := Tryz.zeroValue233
 t213 := Tryz.underlying234
 a213 := Tryz.isAgg234
 z213 := Tryz.sizeOf234
 t232 := Tryz.underlying248
 a232 := Tryz.isAgg248
 z232 := Tryz.sizeOf248
 v232 := Tryz.zeroValue248
 t233 := Tryz.underlying249
 a233 := Tryz.isAgg249
 z233 := Tryz.sizeOf249
 v233 := Tryz.zeroValue249
 g17 := by kernel_rfl
 g18 := by kernel_rfl
 g19 := by kernel_rfl }
open Go.RowKit Go.Sort Go.Lib in
theorem Tryz.strconv_Itoa_small (i : Nat) (hi : i < 100) (w : World) :
 Calls Tryz.prog 150 #[.int .i64 i] w fun e w' => e = .returned (.string ⟨(Lib.decDigits i).toArray⟩) ∧ w' = w := Any.strconv_Itoa_small Tryz.lays171 i hi w
def Tryz.laysC172_ren : Go.Shelf.Ren := ⟨fun | 172 => 234 | 244 => 242 | 245 => 243 | 247 => 247 | 279 => 248 | 280 => 249 | 281 => 250 | 282 => 251 | 287 => 252 | 316 => 253 | 171 => 150 | 205 => 254 | 321 => 255 | 322 => 256 | 243 => 189 | 246 => 214 | 283 => 226 | 284 => 227 | 285 => 228 | 286 => 229 | 129 => 238 | 317 => 237 | 318 => 239 | 319 => 240 | 320 => 241 | 337 => 245 | 338 => 246 | n => n, fun | 9 => 9 | 3 => 3 | 75 => 99 | 76 => 101 | 4 => 4 | 5 => 5 | 167 => 242 | 37 => 83 | 0 => 0 | 85 => 243 | 2 => 2 | 168 => 245 | 53 => 175 | 175 => 250 | 46 => 191 | 210 => 253 | 127 => 120 | 145 => 258 | 143 => 256 | 21 => 21 | 171 => 222 | 173 => 225 | 212 => 233 | 51 => 215 | 20 => 20 | 213 => 234 | 232 => 248 | 233 => 249 | 80 => 89 | n => n, fun | 15 => 10 | 16 => 11 | 17 => 7 | 18 => 8 | 19 => 9 | n => n⟩
theorem Tryz.laysC172 : Go.Proofs.LaysC.n172 Tryz.prog Tryz.laysC172_ren := {
 mixed := by kernel_rfl
 f129 := Tryz.func238.trans (congrArg some (by kernel_rfl))
 f171 := Tryz.func150.trans (congrArg some (by kernel_rfl))
 f172 := Tryz.func234.trans (congrArg some (by kernel_rfl))
 f205 := Tryz.func254.trans (congrArg some (by kernel_rfl))
 f243 := Tryz.func189.trans (congrArg some (by kernel_rfl))
 f244 := Tryz.func242.trans (congrArg some (by kernel_rfl))
 f245 := Tryz.func243.trans (congrArg some (by kernel_rfl))
 f246 := Tryz.func214.trans (congrArg some (by kernel_rfl))
 f247 := Tryz.func247.trans (congrArg some (by kernel_rfl))
 f279 := Tryz.func248.trans (congrArg some (by kernel_rfl))
 f280 := Tryz.func249.trans (congrArg some (by kernel_rfl))
 f281 := Tryz.func250.trans (congrArg some (by kernel_rfl))
 f282 := Tryz.func251.trans (congrArg some (by kernel_rfl))
 f283 := Tryz.func226.trans (congrArg some (by kernel_rfl))
 f284 := Tryz.func227.trans (congrArg some (by kernel_rfl))
 f285 := Tryz.func228.trans (congrArg some (by kernel_rfl))
 f286 := Tryz.func229.trans (congrArg some (by kernel_rfl))
 f287 := Tryz.func252.trans (congrArg some (by kernel_rfl))
 f316 := Tryz.func253.trans (congrArg some (by kernel_rfl))
 f317 := Tryz.func237.trans (congrArg some (by kernel_rfl))
 f318 := Tryz.func239.trans (congrArg some (by kernel_rfl))
 f319 := Tryz.func240.trans (congrArg some (by kernel_rfl))
 f320 := Tryz.func241.trans (congrArg some (by kernel_rfl))
 f321 := Tryz.func255.trans (congrArg some (by kernel_rfl))
 f322 := Tryz.func256.trans (congrArg some (by kernel_rfl))
 f337 := Tryz.func245.trans (congrArg some (by kernel_rfl))
 f338 := Tryz.func246.trans (congrArg some (by kernel_rfl))
 t0 := Tryz.underlying0
 a0 := Tryz.isAgg0
 z0 := Tryz.sizeOf0
 v0 := Tryz.zeroValue0
 t2 := Tryz.underlying2
 a2 := Tryz.isAgg2
 z2 := Tryz.sizeOf2
 v2 := Tryz.zeroValue2
 t3 := Tryz.underlying3
 a3 := Tryz.isAgg3
 z3 := Tryz.sizeOf3
 v3 := Tryz.zeroValue3
 t4 := Tryz.underlying4
 a4 := Tryz.isAgg4
 z4 := Tryz.sizeOf4
 v4 := Tryz.zeroValue4
 t5 := Tryz.underlying5
 a5 := Tryz.isAgg5
 z5 := Tryz.sizeOf5
 v5 := Tryz.zeroValue5
 t9 := Tryz.underlying9
 a9 := Tryz.isAgg9
 z9 := Tryz.sizeOf9
 v9 := Tryz.zeroValue9
 t20 := Tryz.underlying20
 a20 := Tryz.isAgg20
 z20 := Tryz.sizeOf20
 v20 := Tryz.zeroValue20
 t21 := Tryz.underlying21
 a21 := Tryz.isAgg21
 z21 := Tryz.sizeOf21
 v21 := Tryz.zeroValue21
 t37 := Tryz.underlying83
 a37 := Tryz.isAgg83
 z37 := Tryz.sizeOf83
 v37 := Tryz.zeroValue83
 t46 := Tryz.underlying191
 a46 := Tryz.isAgg191
 z46 := Tryz.sizeOf191
 v46 := Tryz.zeroValue191
 t51 := Tryz.underlying215
 a51 := Tryz.isAgg215
 z51 := Tryz.sizeOf215
 v51 := Tryz.zeroValue215
 t53 := Tryz.underlying175
 a53 := Tryz.isAgg175
 z53 := Tryz.sizeOf175
 v53 := Tryz.zeroValue175
 t75 := Tryz.underlying99
 a75 := Tryz.isAgg99
 z75 := Tryz.sizeOf99
 v75 := Tryz.zeroValue99
 t76 := Tryz.underlying101
 a76 := Tryz.isAgg101
 z76 := Tryz.sizeOf101
 v76 := Tryz.zeroValue101
 t85 := Tryz.underlying243
 a85 := Tryz.isAgg243
 z85 := Tryz.sizeOf243
 v85 := Tryz.zeroValue243
 t127 := Tryz.underlying120
 a127 := Tryz.isAgg120
 z127 := Tryz.sizeOf120
 v127 := Tryz.zeroValue120
 t143 := Tryz.underlying256
 a143 := Tryz.isAgg256
 z143 := Tryz.sizeOf256
 v143 := Tryz.zeroValue256
 t145 := Tryz.underlying258
 a145 := Tryz.isAgg258
 z145 := Tryz.sizeOf258
 v145 := Tryz.zeroValue258
 t167 := Tryz.underlying242
 a167 := Tryz.isAgg242
 z167 := Tryz.sizeOf242
 v167 := Tryz.zeroValue242
 t168 := Tryz.underlying245
 a168 := Tryz.isAgg245
 z168 := Tryz.sizeOf245
 v168 := Tryz.zeroValue245
 t171 := Tryz.underlying222
 a171 := Tryz.isAgg222
 z171 := Tryz.sizeOf222
 v171 := Tryz.zeroValue222
 t173 := Tryz.underlying225
 a173 := Tryz.isAgg225
 z173 := Tryz.sizeOf225
 v173 := Tryz.zeroValue225
 t175 := Tryz.underlying250
 a175 := Tryz.isAgg250
 z175 := Tryz.sizeOf250
 v175 := Tryz.zeroValue250
 t210 := Tryz.underlying253
 a210 := Tryz.isAgg253
 z210 := Tryz.sizeOf253
 v210 := Tryz.zeroValue253
 t212 := Tryz.underlying233
 a212 := Tryz.isAgg233
 z212 := Tryz.sizeOf233
 v212 := Tryz.zeroValue233
 t213 := Tryz.underlying234
 a213 := Tryz.isAgg234
 z213 := Tryz.sizeOf234
 t232 := Tryz.underlying248
 a232 := Tryz.isAgg248
 z232 := Tryz.sizeOf248
 v232 := Tryz.zeroValue248
 t233 := Tryz.underlying249
 a233 := Tryz.isAgg249
 z233 := Tryz.sizeOf249
 v233 := Tryz.zeroValue249
 g15 := by kernel_rfl
 g16 := by kernel_rfl
 g17 := by kernel_rfl
 g18 := by kernel_rfl
 g19 := by kernel_rfl
 t80 := Tryz.underlying89
 a80 := Tryz.isAgg89
 z80 := Tryz.sizeOf89
 v80 := Tryz.zeroValue89
 i0 := by kernel_rfl
 i2 := by kernel_rfl
 i3 := by kernel_rfl
 i4 := by kernel_rfl
 i5 := by kernel_rfl
 i9 := by kernel_rfl
 i20 := by kernel_rfl
 i21 := by kernel_rfl
 i37 := by kernel_rfl
 i46 := by kernel_rfl
 i51 := by kernel_rfl
 i53 := by kernel_rfl
 i75 := by kernel_rfl
 i76 := by kernel_rfl
 i80 := by kernel_rfl
 i85 := by kernel_rfl
 i127 := by kernel_rfl
 i143 := by kernel_rfl
 i145 := by kernel_rfl
 i167 := by kernel_rfl
 i168 := by kernel_rfl
 i171 := by kernel_rfl
 i173 := by kernel_rfl
 i175 := by kernel_rfl
 i210 := by kernel_rfl
 i212 := by kernel_rfl
 i232 := by kernel_rfl
 i233 := by kernel_rfl
 m15 := by kernel_rfl
 m16 := by kernel_rfl
 m17 := by kernel_rfl
 m18 := by kernel_rfl
 m19 := by kernel_rfl
 c0 := by kernel_rfl
 c2 := by kernel_rfl
 c3 := by kernel_rfl
 c4 := by kernel_rfl
 c5 := by kernel_rfl
 c9 := by kernel_rfl
 c20 := by kernel_rfl
 c21 := by kernel_rfl
 c37 := by kernel_rfl
 c46 := by kernel_rfl
 c51 := by kernel_rfl
 c53 := by kernel_rfl
 c75 := by kernel_rfl
 c76 := by kernel_rfl
 c80 := by kernel_rfl
 c85 := by kernel_rfl
 c127 := by kernel_rfl
 c143 := by kernel_rfl
 c145 := by kernel_rfl
 c167 := by kernel_rfl
 c168 := by kernel_rfl
 c171 := by kernel_rfl
 c173 := by kernel_rfl
 c175 := by kernel_rfl
 c210 := by kernel_rfl
 c212 := by kernel_rfl
 c213 := by kernel_rfl
 c232 := by kernel_rfl
 c233 := by kernel_rfl }
open Go.RowKit in
theorem Tryz.strconv_Atoi_ok (s : ByteArray) (hmax : s.size ≤ 9223372036854775806) (v : Int) (h : Lib.atoiAll s.data.toList = .ok v) (w : World) :
 Calls Tryz.prog 234 #[.string s] w fun e w' => e = .returned (.tuple #[.int .i64 v, .nilIface]) ∧ (w' = w ∨ ∃ t, w' = Lib.bytesWorld w 5 t) := Any.strconv_Atoi_ok Tryz.laysC172 s hmax v h w
open Go.RowKit in
theorem Tryz.strconv_Atoi_range (s : ByteArray) (hlim : s.size ≤ 281474976710656) (h : Lib.atoiAll s.data.toList = .range) (ev : Value) (w : World) (hv : w.cell? ⟨11, 0, none⟩ = some ev) (hev : ev = .nilIface ∨ ∃ te pe, ev = .iface te pe) :
 Calls Tryz.prog 234 #[.string s] w fun e w' => ∃ N, e = .returned (.tuple #[.int .i64 (Lib.atoiSat s.data.toList), .iface 245 (.pointer (some ⟨N, 0, none⟩))]) ∧ w.heap.size ≤ N ∧ w'.heap[N]? = some (.cells #[.string ⟨#[65, 116, 111, 105]⟩, .string s, ev] 253 (0, 0)) ∧ Below w.heap.size w w' := Any.strconv_Atoi_range Tryz.laysC172 s hlim h ev w hv hev
def Tryz.laysGw15_ren : Go.Shelf.Ren := ⟨fun | 15 => 219 | 20 => 233 | n => n, fun | 9 => 9 | 23 => 189 | 3 => 3 | 4 => 4 | 0 => 0 | 21 => 21 | n => n, fun | n => n⟩
theorem Tryz.laysGw15 : Go.Proofs.LaysGw.n15 Tryz.prog Tryz.laysGw15_ren := {
 mixed := by kernel_rfl
 f15 := Tryz.func219.trans (congrArg some (by kernel_rfl))
 f20 := Tryz.func233.trans (congrArg some (by kernel_rfl))
 t0 := Tryz.underlying0
 a0 := Tryz.isAgg0
 z0 := Tryz.sizeOf0
 v0 := Tryz.zeroValue0
 i0 := by kernel_rfl
 t3 := Tryz.underlying3
 a3 := Tryz.isAgg3
 z3 := Tryz.sizeOf3
 v3 := Tryz.zeroValue3
 i3 := by kernel_rfl
 t4 := Tryz.underlying4
 a4 := Tryz.isAgg4
 z4 := Tryz.sizeOf4
 v4 := Tryz.zeroValue4
 i4 := by kernel_rfl
 t9 := Tryz.underlying9
 a9 := Tryz.isAgg9
 z9 := Tryz.sizeOf9
 v9 := Tryz.zeroValue9
 i9 := by kernel_rfl
 t21 := Tryz.underlying21
 a21 := Tryz.isAgg21
 z21 := Tryz.sizeOf21
 v21 := Tryz.zeroValue21
 i21 := by kernel_rfl
 t23 := Tryz.underlying189
 a23 := Tryz.isAgg189
 z23 := Tryz.sizeOf189
 v23 := Tryz.zeroValue189
 i23 := by kernel_rfl }
open Go.RowKit Go.Lib in
theorem Tryz.strings_IndexFunc_runes (g : Nat) (lb : Array Value) (eg : ∀ args w, (callFunc g args).run Tryz.prog w = .ok (.enter g args) w) (p : Nat → Bool) (s : ByteArray) (w : World) (hp : PredAtRunes Tryz.prog g lb p w) :
 Calls Tryz.prog 219 #[.string s, .func (.func g) #[] lb] w fun e w' => e = .returned (.int .i64 (Lib.idxFunc p true s)) ∧ Below w.heap.size w w' := Any.strings_IndexFunc_runes Tryz.laysGw15 g lb eg p s w hp
def Tryz.lays155_ren : Go.Shelf.Ren := ⟨fun | 155 => 60 | 154 => 98 | 138 => 138 | 165 => 139 | 143 => 140 | 166 => 59 | 197 => 141 | 169 => 51 | 195 => 172 | 218 => 173 | 240 => 97 | 241 => 174 | 219 => 175 | 260 => 176 | 276 => 137 | 277 => 202 | 217 => 132 | 225 => 192 | 224 => 191 | 267 => 203 | 266 => 165 | 314 => 218 | n => n, fun | 9 => 9 | 3 => 3 | 4 => 4 | 72 => 85 | 0 => 0 | 76 => 101 | 105 => 164 | 21 => 21 | 5 => 5 | 70 => 82 | 20 => 20 | 37 => 83 | 75 => 99 | 127 => 120 | 164 => 162 | 46 => 191 | 119 => 201 | 139 => 204 | 138 => 203 | 146 => 216 | 51 => 215 | 80 => 89 | n => n, fun | 1 => 3 | 3 => 4 | 4 => 5 | n => n⟩
theorem Tryz.lays155 : Go.Proofs.Lays.n155 Tryz.prog Tryz.lays155_ren := {
 mixed := by kernel_rfl
 f138 := Tryz.func138.trans (congrArg some (by kernel_rfl))
 f143 := Tryz.func140.trans (congrArg some (by kernel_rfl))
 f154 := Tryz.func98.trans (congrArg some (by kernel_rfl))
 f155 := Tryz.func60.trans (congrArg some (by kernel_rfl))
 f165 := Tryz.func139.trans (congrArg some (by kernel_rfl))
 f166 := Tryz.func59.trans (congrArg some (by kernel_rfl))
 f169 := Tryz.func51.trans (congrArg some (by kernel_rfl))
 f195 := Tryz.func172.trans (congrArg some (by kernel_rfl))
 f197 := Tryz.func141.trans (congrArg some (by kernel_rfl))
 f217 := Tryz.func132.trans (congrArg some (by kernel_rfl))
 f218 := Tryz.func173.trans (congrArg some (by kernel_rfl))
 f219 := Tryz.func175.trans (congrArg some (by kernel_rfl))
 f224 := Tryz.func191.trans (congrArg some (by kernel_rfl))
 f225 := Tryz.func192.trans (congrArg some (by kernel_rfl))
 f240 := Tryz.func97.trans (congrArg some (by kernel_rfl))
 f241 := Tryz.func174.trans (congrArg some (by kernel_rfl))
 f260 := Tryz.func176.trans (congrArg some (by kernel_rfl))
 f266 := Tryz.func165.trans (congrArg some (by kernel_rfl))
 f267 := Tryz.func203.trans (congrArg some (by kernel_rfl))
 f276 := Tryz.func137.trans (congrArg some (by kernel_rfl))
 f277 := Tryz.func202.trans (congrArg some (by kernel_rfl))
 f314 := Tryz.func218.trans (congrArg some (by kernel_rfl))
 t0 := Tryz.underlying0
 a0 := Tryz.isAgg0
 z0 := Tryz.sizeOf0
 v0 := Tryz.zeroValue0
 t3 := Tryz.underlying3
 a3 := Tryz.isAgg3
 z3 := Tryz.sizeOf3
 v3 := Tryz.zeroValue3
 t4 := Tryz.underlying4
 a4 := Tryz.isAgg4
 z4 := Tryz.sizeOf4
 v4 := Tryz.zeroValue4
 t5 := Tryz.underlying5
 a5 := Tryz.isAgg5
 z5 := Tryz.sizeOf5
 v5 := Tryz.zeroValue5
 t9 := Tryz.underlying9
 a9 := Tryz.isAgg9
 z9 := Tryz.sizeOf9
 v9 := Tryz.zeroValue9
 t20 := Tryz.underlying20
 a20 := Tryz.isAgg20
 z20 := Tryz.sizeOf20
 v20 := Tryz.zeroValue20
 t21 := Tryz.underlying21
 a21 := Tryz.isAgg21
 z21 := Tryz.sizeOf21
 v21 := Tryz.zeroValue21
 t37 := Tryz.underlying83
 a37 := Tryz.isAgg83
 z37 := Tryz.sizeOf83
 v37 := Tryz.zeroValue83
 t46 := Tryz.underlying191
 a46 := Tryz.isAgg191
 z46 := Tryz.sizeOf191
 v46 := Tryz.zeroValue191
 t51 := Tryz.underlying215
 a51 := Tryz.isAgg215
 z51 := Tryz.sizeOf215
 v51 := Tryz.zeroValue215
 t70 := Tryz.underlying82
 a70 := Tryz.isAgg82
 z70 := Tryz.sizeOf82
 v70 := Tryz.zeroValue82
 t72 := Tryz.underlying85
 a72 := Tryz.isAgg85
 z72 := Tryz.sizeOf85
 v72 := Tryz.zeroValue85
 t75 := Tryz.underlying99
 a75 := Tryz.isAgg99
 z75 := Tryz.sizeOf99
 v75 := Tryz.zeroValue99
 t76 := Tryz.underlying101
 a76 := Tryz.isAgg101
 z76 := Tryz.sizeOf101
 v76 := Tryz.zeroValue101
 t105 := Tryz.underlying164
 a105 := Tryz.isAgg164
 z105 := Tryz.sizeOf164
 v105 := Tryz.zeroValue164
 t119 := Tryz.underlying201
 a119 := Tryz.isAgg201
 z119 := Tryz.sizeOf201
 t127 := Tryz.underlying120
 a127 := Tryz.isAgg120
 z127 := Tryz.sizeOf120
 v127 := Tryz.zeroValue120
 t138 := Tryz.underlying203
 a138 := Tryz.isAgg203
 z138 := Tryz.sizeOf203
 v138 := Tryz.zeroValue203
 t139 := Tryz.underlying204
 a139 := Tryz.isAgg204
 z139 := Tryz.sizeOf204
 v139 := Tryz.zeroValue204
 t146 := Tryz.underlying216
 a146 := Tryz.isAgg216
 z146 := Tryz.sizeOf216
 v146 := Tryz.zeroValue216
 t164 := Tryz.underlying162
 a164 := Tryz.isAgg162
 z164 := Tryz.sizeOf162
 v164 := Tryz.zeroValue162
 g1 := by kernel_rfl
 g3 := by kernel_rfl
 g4 := by kernel_rfl }
theorem Tryz.Builder_Extra_155 : Builder.Extra Tryz.prog Tryz.lays155_ren := {
 sizeBuilder := by kernel_rfl
 liesBuilder := by kernel_rfl
 t5 := Tryz.underlying5
 a5 := Tryz.isAgg5
 z5 := Tryz.sizeOf5
 v5 := Tryz.zeroValue5
 infoByte := by kernel_rfl
 cellsByte := by kernel_rfl
 sizeByte := by kernel_rfl
 neB5 := by decide }
open Go.RowKit Go.Lib in
theorem Tryz.strings_ReplaceAll (s old new : ByteArray) (m : Int) (w : World) (hs : s.size < 4294967281) (hm : w.cell? ⟨3, 0, none⟩ = some (.int .i64 m)) (h1 : 1 ≤ old.size) (hlen : s.size + Lib.countB s old * new.size ≤ 140737488355328) :
 Calls Tryz.prog 60 #[.string s, .string old, .string new] w fun e w' =>
  e = .returned (.string ⟨(Lib.replaceAll s.data.toList old.data.toList new.data.toList).toArray⟩) ∧ Below w.heap.size w w' := Any.strings_ReplaceAll Tryz.lays155 Tryz.Builder_Extra_155 s old new m w hs hm h1 hlen
def Tryz.lays153_ren : Go.Shelf.Ren := ⟨fun | 153 => 119 | 152 => 151 | 226 => 152 | 227 => 153 | 228 => 154 | 137 => 92 | 119 => 190 | 224 => 191 | 225 => 192 | 217 => 132 | 266 => 165 | n => n, fun | 9 => 9 | 3 => 3 | 4 => 4 | 5 => 5 | 21 => 21 | 117 => 172 | 116 => 171 | 0 => 0 | 46 => 191 | 124 => 192 | n => n, fun | n => n⟩
theorem Tryz.lays153 : Go.Proofs.Lays.n153 Tryz.prog Tryz.lays153_ren := {
 mixed := by kernel_rfl
 f119 := Tryz.func190.trans (congrArg some (by kernel_rfl))
 f137 := Tryz.func92.trans (congrArg some (by kernel_rfl))
 f152 := Tryz.func151.trans (congrArg some (by kernel_rfl))
 f153 := Tryz.func119.trans (congrArg some (by kernel_rfl))
 f217 := Tryz.func132.trans (congrArg some (by kernel_rfl))
 f224 := Tryz.func191.trans (congrArg some (by kernel_rfl))
 f225 := Tryz.func192.trans (congrArg some (by kernel_rfl))
 f226 := Tryz.func152.trans (congrArg some (by kernel_rfl))
 f227 := Tryz.func153.trans (congrArg some (by kernel_rfl))
 f228 := Tryz.func154.trans (congrArg some (by kernel_rfl))
 f266 := Tryz.func165.trans (congrArg some (by kernel_rfl))
 t0 := Tryz.underlying0
 a0 := Tryz.isAgg0
 z0 := Tryz.sizeOf0
 v0 := Tryz.zeroValue0
 t3 := Tryz.underlying3
 a3 := Tryz.isAgg3
 z3 := Tryz.sizeOf3
 v3 := Tryz.zeroValue3
 t4 := Tryz.underlying4
 a4 := Tryz.isAgg4
 z4 := Tryz.sizeOf4
 v4 := Tryz.zeroValue4
 t5 := Tryz.underlying5
 a5 := Tryz.isAgg5
 z5 := Tryz.sizeOf5
 v5 := Tryz.zeroValue5
 t9 := Tryz.underlying9
 a9 := Tryz.isAgg9
 z9 := Tryz.sizeOf9
 v9 := Tryz.zeroValue9
 t21 := Tryz.underlying21
 a21 := Tryz.isAgg21
 z21 := Tryz.sizeOf21
 v21 := Tryz.zeroValue21
 t46 := Tryz.underlying191
 a46 := Tryz.isAgg191
 z46 := Tryz.sizeOf191
 v46 := Tryz.zeroValue191
 t116 := Tryz.underlying171
 a116 := Tryz.isAgg171
 z116 := Tryz.sizeOf171
 t117 := Tryz.underlying172
 a117 := Tryz.isAgg172
 z117 := Tryz.sizeOf172
 v117 := Tryz.zeroValue172
 t124 := Tryz.underlying192
 a124 := Tryz.isAgg192
 z124 := Tryz.sizeOf192
 v124 := Tryz.zeroValue192 }
open Go.RowKit Go.Lib in
theorem Tryz.strings_IndexAny_laid (s chars : ByteArray) (w : World) (hs : s.size < 4294967281) (hcs : chars.size < 4294967281) (has : ∀ (j : Nat) b, s.data.toList[j]? = some b → b.toNat < 128) (hac : ∀ (j : Nat) b, chars.data.toList[j]? = some b → b.toNat < 128) :
 Calls Tryz.prog 119 #[.string s, .string chars] w fun e w' => e = .returned (.int .i64 (Lib.indexAny s.data.toList chars.data.toList)) ∧ Below w.heap.size w w' := Any.strings_IndexAny_laid Tryz.lays153 (by kernel_rfl) s chars w hs hcs has hac
end Go.Proofs
