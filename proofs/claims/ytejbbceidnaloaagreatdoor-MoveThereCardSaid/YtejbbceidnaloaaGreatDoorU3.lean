import Derived.Shelf.Strings.Builder1
import Derived.Shelf.Strings.Builder2
import Derived.Shelf.Strings.OnBuilder
import Derived.Shelf.Strings.Trim
import Derived.Shelf.Small.Utf8
import Derived.Shelf.Small.Strs
import Derived.Shelf.Small.Wraps
import Derived.Shelf.Strings.BuilderF
import Derived.Shelf.Strings.BuilderK
import Derived.Shelf.Strings.BuilderRune
import Derived.Shelf.Strconv.Atoi
import Derived.Shelf.Strconv.Itoa0
import Derived.Shelf.Strconv.Itoa1
import Derived.Shelf.LaysM
import Derived.Shelf.Strconv.Itoa2
import Derived.Shelf.Strconv.Itoa3
import Derived.Shelf.Strconv.AtoiErrFast
import Derived.Shelf.Strconv.ParseIntEmpty
import Derived.Shelf.Strconv.AtoiFail
import Derived.Shelf.Strconv.Clone
import Derived.Shelf.Strconv.SyntaxError
import Derived.Shelf.LaysC
import Derived.Shelf.Strconv.ToError
import Derived.Shelf.Strconv.AtoiErr
import Derived.Shelf.Strconv.ErrVar
import Derived.Shelf.Strconv.Lower
import Derived.Shelf.Strconv.ParseUint10
import Derived.Shelf.Strconv.ParseUint10Empty
import Derived.Shelf.Strconv.ParseUint10Any
import Derived.Shelf.Strconv.ParseInt10
import Derived.Shelf.Strconv.AtoiLong
import Derived.Shelf.Strconv.AtoiInnerAll
import Derived.Shelf.Strconv.RangeError
import Derived.Shelf.Strconv.ToErrorRange
import Derived.Shelf.Strconv.AtoiAll
import Derived.Shelf.Strconv.ErrVarAll
import Derived.Shelf.Strings.Search1
import Derived.Shelf.Strings.Search2
import Derived.Shelf.Strings.Search3
import Derived.Shelf.Strings.Count
import Derived.Shelf.Strings.Shaped
import Derived.Shelf.GgClosure.StringsIndexFunc
import Derived.Ground.GgwProg
import Derived.Shelf.GgClosure.StringsIndexFuncTop
import Derived.Shelf.GgClosure.StringsRunes
import Derived.Shelf.Strings.Prefix
import Derived.Shelf.Strings.Split
import Derived.Shelf.Strings.Replace
import Derived.Shelf.Strings.SplitShaped
import Derived.Shelf.Unicode.Latin
import Derived.Shelf.Strings.Runes
import Derived.Shelf.Strings.IndexAny
import Derived.Shelf.Strings.AsciiSet
import Derived.Shelf.Strings.IndexAnyAll
import Derived.Shelf.Unicode.DecodeSlow
import Derived.Shelf.Unicode.DecodeAny
import Derived.Shelf.Unicode.DecodeLast
import Derived.Shelf.Unicode.CaseLookup
import Derived.Shelf.Unicode.CaseConvert
import Derived.Shelf.Unicode.CaseTo
import Derived.Shelf.Unicode.CaseLaid
import Derived.Shelf.Strings.MapAny
import Derived.Shelf.Strings.CaseAny
import Derived.Shelf.Strings.FuncGrows
import Derived.Laws.Runes
import Derived.Test.YtejbbceidnaloaaGreatDoorU2
import Derived.Lib.AtoiAll
import Derived.Lib.AtoiErrMem
import Derived.Lib.AppendIntMem
import Derived.Lib.SmallJoins
import Derived.Lib.AtoiAllCases
import Derived.LoopN
import Derived.Deep.RegionWith
namespace Go.Proofs
open Go.Shelf
set_option linter.unusedVariables false
set_option linter.unusedSimpArgs false
def Tryz.lays158_ren : Go.Shelf.Ren := ⟨fun | 158 => 136 | 165 => 139 | 166 => 59 | 167 => 58 | 169 => 51 | 230 => 170 | 203 => 171 | 240 => 97 | 241 => 174 | 197 => 141 | 118 => 198 | 168 => 199 | 270 => 200 | 262 => 201 | 276 => 137 | 277 => 202 | 260 => 176 | 242 => 216 | 313 => 217 | 278 => 230 | 274 => 231 | 275 => 232 | n => n, fun | 9 => 9 | 4 => 4 | 3 => 3 | 5 => 5 | 72 => 85 | 0 => 0 | 76 => 101 | 75 => 99 | 107 => 184 | 70 => 82 | 20 => 20 | 37 => 83 | 127 => 120 | 21 => 21 | 105 => 164 | 164 => 162 | 162 => 214 | 203 => 212 | 119 => 201 | 46 => 191 | 139 => 204 | 138 => 203 | 51 => 215 | 160 => 227 | 208 => 239 | 206 => 237 | 80 => 89 | n => n, fun | 13 => 6 | 3 => 4 | 4 => 5 | n => n⟩
theorem Tryz.lays158 : Go.Proofs.Lays.n158 Tryz.prog Tryz.lays158_ren := {
 mixed := by kernel_rfl
 f118 := Tryz.func198.trans (congrArg some (by kernel_rfl))
 f158 := Tryz.func136.trans (congrArg some (by kernel_rfl))
 f165 := Tryz.func139.trans (congrArg some (by kernel_rfl))
 f166 := Tryz.func59.trans (congrArg some (by kernel_rfl))
 f167 := Tryz.func58.trans (congrArg some (by kernel_rfl))
 f168 := Tryz.func199.trans (congrArg some (by kernel_rfl))
 f169 := Tryz.func51.trans (congrArg some (by kernel_rfl))
 f197 := Tryz.func141.trans (congrArg some (by kernel_rfl))
 f203 := Tryz.func171.trans (congrArg some (by kernel_rfl))
 f230 := Tryz.func170.trans (congrArg some (by kernel_rfl))
 f240 := Tryz.func97.trans (congrArg some (by kernel_rfl))
 f241 := Tryz.func174.trans (congrArg some (by kernel_rfl))
 f242 := Tryz.func216.trans (congrArg some (by kernel_rfl))
 f260 := Tryz.func176.trans (congrArg some (by kernel_rfl))
 f262 := Tryz.func201.trans (congrArg some (by kernel_rfl))
 f270 := Tryz.func200.trans (congrArg some (by kernel_rfl))
 f274 := Tryz.func231.trans (congrArg some (by kernel_rfl))
 f275 := Tryz.func232.trans (congrArg some (by kernel_rfl))
 f276 := Tryz.func137.trans (congrArg some (by kernel_rfl))
 f277 := Tryz.func202.trans (congrArg some (by kernel_rfl))
 f278 := Tryz.func230.trans (congrArg some (by kernel_rfl))
 f313 := Tryz.func217.trans (congrArg some (by kernel_rfl))
 t0 := Tryz.underlying0
 a0 := Tryz.isAgg0
 z0 := Tryz.sizeOf0
 v0 := Tryz.zeroValue0
 t3 := Tryz.underlying3
 a3 := Tryz.isAgg3
 z3 := Tryz.sizeOf3
 v3 := Tryz.zeroValue3
 t4 := Tryz.underlying4
 a4 := Tryz.isAgg4
 z4 := Tryz.sizeOf4
 v4 := Tryz.zeroValue4
 t5 := Tryz.underlying5
 a5 := Tryz.isAgg5
 z5 := Tryz.sizeOf5
 v5 := Tryz.zeroValue5
 t9 := Tryz.underlying9
 a9 := Tryz.isAgg9
 z9 := Tryz.sizeOf9
 v9 := Tryz.zeroValue9
 t20 := Tryz.underlying20
 a20 := Tryz.isAgg20
 z20 := Tryz.sizeOf20
 v20 := Tryz.zeroValue20
 t21 := Tryz.underlying21
 a21 := Tryz.isAgg21
 z21 := Tryz.sizeOf21
 v21 := Tryz.zeroValue21
 t37 := Tryz.underlying83
 a37 := Tryz.isAgg83
 z37 := Tryz.sizeOf83
 v37 := Tryz.zeroValue83
 t46 := Tryz.underlying191
 a46 := Tryz.isAgg191
 z46 := Tryz.sizeOf191
 v46 := Tryz.zeroValue191
 t51 := Tryz.underlying215
 a51 := Tryz.isAgg215
 z51 := Tryz.sizeOf215
 v51 := Tryz.zeroValue215
 t70 := Tryz.underlying82
 a70 := Tryz.isAgg82
 z70 := Tryz.sizeOf82
 v70 := Tryz.zeroValue82
 t72 := Tryz.underlying85
 a72 := Tryz.isAgg85
 z72 := Tryz.sizeOf85
 v72 := Tryz.zeroValue85
 t75 := Tryz.underlying99
 a75 := Tryz.isAgg99
 z75 := Tryz.sizeOf99
 v75 := Tryz.zeroValue99
 t76 := Tryz.underlying101
 a76 := Tryz.isAgg101
 z76 := Tryz.sizeOf101
 v76 := Tryz.zeroValue101
 t105 := Tryz.underlying164
 a105 := Tryz.isAgg164
 z105 := Tryz.sizeOf164
 v105 := Tryz.zeroValue164
 t107 := Tryz.underlying184
 a107 := Tryz.isAgg184
 z107 := Tryz.sizeOf184
 v107 := Tryz.zeroValue184
 t119 := Tryz.underlying201
 a119 := Tryz.isAgg201
 z119 := Tryz.sizeOf201
 t127 := Tryz.underlying120
 a127 := Tryz.isAgg120
 z127 := Tryz.sizeOf120
 v127 := Tryz.zeroValue120
 t138 := Tryz.underlying203
 a138 := Tryz.isAgg203
 z138 := Tryz.sizeOf203
 v138 := Tryz.zeroValue203
 t139 := Tryz.underlying204
 a139 := Tryz.isAgg204
 z139 := Tryz.sizeOf204
 v139 := Tryz.zeroValue204
 t160 := Tryz.underlying227
 a160 := Tryz.isAgg227
 z160 := Tryz.sizeOf227
 v160 := Tryz.zeroValue227
 t162 := Tryz.underlying214
 a162 := Tryz.isAgg214
 z162 := Tryz.sizeOf214
 v162 := Tryz.zeroValue214
 t164 := Tryz.underlying162
 a164 := Tryz.isAgg162
 z164 := Tryz.sizeOf162
 v164 := Tryz.zeroValue162
 t203 := Tryz.underlying212
 a203 := Tryz.isAgg212
 z203 := Tryz.sizeOf212
 v203 := Tryz.zeroValue212
 t206 := Tryz.underlying237
 a206 := Tryz.isAgg237
 z206 := Tryz.sizeOf237
 v206 := Tryz.zeroValue237
 t208 := Tryz.underlying239
 a208 := Tryz.isAgg239
 z208 := Tryz.sizeOf239
 v208 := Tryz.zeroValue239
 g3 := by kernel_rfl
 g4 := by kernel_rfl
 g13 := by kernel_rfl }
theorem Tryz.Builder_Extra_158 : Builder.Extra Tryz.prog Tryz.lays158_ren := {
 sizeBuilder := by kernel_rfl
 liesBuilder := by kernel_rfl
 t5 := Tryz.underlying5
 a5 := Tryz.isAgg5
 z5 := Tryz.sizeOf5
 v5 := Tryz.zeroValue5
 infoByte := by kernel_rfl
 cellsByte := by kernel_rfl
 sizeByte := by kernel_rfl
 neB5 := by decide }
open Go.RowKit in
theorem Tryz.strings_ToUpper_ascii (s : ByteArray) (w : World) (hs : s.size ≤ 140737488355328) (hascii : ∀ (j : Nat) (b : UInt8), s.data.toList[j]? = some b → b.toNat < 128) :
 Calls Tryz.prog 136 #[.string s] w fun e w' => e = .returned (.string ⟨(Lib.toUpperA s.data.toList).toArray⟩) ∧ Below w.heap.size w w' := Any.strings_ToUpper_ascii Tryz.lays158 Tryz.Builder_Extra_158 s w hs hascii
def Tryz.lays162_ren : Go.Shelf.Ren := ⟨fun | 162 => 213 | 232 => 223 | 227 => 153 | 234 => 224 | 236 => 225 | 228 => 154 | 271 => 235 | 151 => 236 | 120 => 244 | 197 => 141 | 152 => 151 | 260 => 176 | 137 => 92 | 119 => 190 | 224 => 191 | 225 => 192 | 217 => 132 | 266 => 165 | n => n, fun | 9 => 9 | 4 => 4 | 3 => 3 | 5 => 5 | 117 => 172 | 116 => 171 | 0 => 0 | 124 => 192 | 21 => 21 | 105 => 164 | 46 => 191 | 119 => 201 | 139 => 204 | 138 => 203 | n => n, fun | 3 => 4 | 4 => 5 | n => n⟩
theorem Tryz.lays162 : Go.Proofs.Lays.n162 Tryz.prog Tryz.lays162_ren := {
 mixed := by kernel_rfl
 f119 := Tryz.func190.trans (congrArg some (by kernel_rfl))
 f120 := Tryz.func244.trans (congrArg some (by kernel_rfl))
 f137 := Tryz.func92.trans (congrArg some (by kernel_rfl))
 f151 := Tryz.func236.trans (congrArg some (by kernel_rfl))
 f152 := Tryz.func151.trans (congrArg some (by kernel_rfl))
 f162 := Tryz.func213.trans (congrArg some (by kernel_rfl))
 f197 := Tryz.func141.trans (congrArg some (by kernel_rfl))
 f217 := Tryz.func132.trans (congrArg some (by kernel_rfl))
 f224 := Tryz.func191.trans (congrArg some (by kernel_rfl))
 f225 := Tryz.func192.trans (congrArg some (by kernel_rfl))
 f227 := Tryz.func153.trans (congrArg some (by kernel_rfl))
 f228 := Tryz.func154.trans (congrArg some (by kernel_rfl))
 f232 := Tryz.func223.trans (congrArg some (by kernel_rfl))
 f234 := Tryz.func224.trans (congrArg some (by kernel_rfl))
 f236 := Tryz.func225.trans (congrArg some (by kernel_rfl))
 f260 := Tryz.func176.trans (congrArg some (by kernel_rfl))
 f266 := Tryz.func165.trans (congrArg some (by kernel_rfl))
 f271 := Tryz.func235.trans (congrArg some (by kernel_rfl))
 t0 := Tryz.underlying0
 a0 := Tryz.isAgg0
 z0 := Tryz.sizeOf0
 v0 := Tryz.zeroValue0
 t3 := Tryz.underlying3
 a3 := Tryz.isAgg3
 z3 := Tryz.sizeOf3
 v3 := Tryz.zeroValue3
 t4 := Tryz.underlying4
 a4 := Tryz.isAgg4
 z4 := Tryz.sizeOf4
 v4 := Tryz.zeroValue4
 t5 := Tryz.underlying5
 a5 := Tryz.isAgg5
 z5 := Tryz.sizeOf5
 v5 := Tryz.zeroValue5
 t9 := Tryz.underlying9
 a9 := Tryz.isAgg9
 z9 := Tryz.sizeOf9
 v9 := Tryz.zeroValue9
 t21 := Tryz.underlying21
 a21 := Tryz.isAgg21
 z21 := Tryz.sizeOf21
 v21 := Tryz.zeroValue21
 t46 := Tryz.underlying191
 a46 := Tryz.isAgg191
 z46 := Tryz.sizeOf191
 v46 := Tryz.zeroValue191
 t105 := Tryz.underlying164
 a105 := Tryz.isAgg164
 z105 := Tryz.sizeOf164
 v105 := Tryz.zeroValue164
 t116 := Tryz.underlying171
 a116 := Tryz.isAgg171
 z116 := Tryz.sizeOf171
 t117 := Tryz.underlying172
 a117 := Tryz.isAgg172
 z117 := Tryz.sizeOf172
 v117 := Tryz.zeroValue172
 t119 := Tryz.underlying201
 a119 := Tryz.isAgg201
 z119 := Tryz.sizeOf201
 t124 := Tryz.underlying192
 a124 := Tryz.isAgg192
 z124 := Tryz.sizeOf192
 v124 := Tryz.zeroValue192
 t138 := Tryz.underlying203
 a138 := Tryz.isAgg203
 z138 := Tryz.sizeOf203
 v138 := Tryz.zeroValue203
 t139 := Tryz.underlying204
 a139 := Tryz.isAgg204
 z139 := Tryz.sizeOf204
 v139 := Tryz.zeroValue204
 g3 := by kernel_rfl
 g4 := by kernel_rfl }
open Go.RowKit in
theorem Tryz.strings_TrimRight_one (s : ByteArray) (c : UInt8) (hc : c.toNat < 128) (w : World) (hs : s.size ≤ 9223372036854775807) :
 Calls Tryz.prog 213 #[.string s, .string ⟨#[c]⟩] w fun e w' => e = .returned (.string ⟨(Lib.trimRightB s.data.toList c).toArray⟩) ∧ w' = w := Any.strings_TrimRight_one Tryz.lays162 s c hc w hs
def Tryz.lays137_ren : Go.Shelf.Ren := ⟨fun | 137 => 92 | 217 => 132 | 266 => 165 | n => n, fun | 9 => 9 | 5 => 5 | 3 => 3 | n => n, fun | n => n⟩
theorem Tryz.lays137 : Go.Proofs.Lays.n137 Tryz.prog Tryz.lays137_ren := {
 mixed := by kernel_rfl
 f137 := Tryz.func92.trans (congrArg some (by kernel_rfl))
 f217 := Tryz.func132.trans (congrArg some (by kernel_rfl))
 f266 := Tryz.func165.trans (congrArg some (by kernel_rfl))
 t3 := Tryz.underlying3
 a3 := Tryz.isAgg3
 z3 := Tryz.sizeOf3
 v3 := Tryz.zeroValue3
 t5 := Tryz.underlying5
 a5 := Tryz.isAgg5
 z5 := Tryz.sizeOf5
 v5 := Tryz.zeroValue5
 t9 := Tryz.underlying9
 a9 := Tryz.isAgg9
 z9 := Tryz.sizeOf9
 v9 := Tryz.zeroValue9 }
open Go.RowKit in
theorem Tryz.strings_IndexByte (s : ByteArray) (c : Int) (w : World) :
 Calls Tryz.prog 92 #[.string s, .int .u8 c] w fun e w' => e = .returned (.int .i64 (Lib.indexByte s.data.toList c.toNat.toUInt8)) ∧ w' = w := Any.strings_IndexByte Tryz.lays137 s c w
def Tryz.laysM171_ren : Go.Shelf.Ren := ⟨fun | 171 => 150 | 243 => 189 | 246 => 214 | 283 => 226 | 284 => 227 | 285 => 228 | 286 => 229 | 129 => 238 | 317 => 237 | 318 => 239 | 319 => 240 | 320 => 241 | 337 => 245 | 338 => 246 | n => n, fun | 3 => 3 | 9 => 9 | 2 => 2 | 4 => 4 | 171 => 222 | 0 => 0 | 53 => 175 | 37 => 83 | 5 => 5 | 173 => 225 | 212 => 233 | 51 => 215 | 20 => 20 | 213 => 234 | 46 => 191 | 232 => 248 | 233 => 249 | n => n, fun | 17 => 7 | 18 => 8 | 19 => 9 | n => n⟩
theorem Tryz.laysM171 : Go.Proofs.LaysM.n171 Tryz.prog Tryz.laysM171_ren := {
 mixed := by kernel_rfl
 f129 := Tryz.func238.trans (congrArg some (by kernel_rfl))
 f171 := Tryz.func150.trans (congrArg some (by kernel_rfl))
 f243 := Tryz.func189.trans (congrArg some (by kernel_rfl))
 f246 := Tryz.func214.trans (congrArg some (by kernel_rfl))
 f283 := Tryz.func226.trans (congrArg some (by kernel_rfl))
 f284 := Tryz.func227.trans (congrArg some (by kernel_rfl))
 f285 := Tryz.func228.trans (congrArg some (by kernel_rfl))
 f286 := Tryz.func229.trans (congrArg some (by kernel_rfl))
 f317 := Tryz.func237.trans (congrArg some (by kernel_rfl))
 f318 := Tryz.func239.trans (congrArg some (by kernel_rfl))
 f319 := Tryz.func240.trans (congrArg some (by kernel_rfl))
 f320 := Tryz.func241.trans (congrArg some (by kernel_rfl))
 f337 := Tryz.func245.trans (congrArg some (by kernel_rfl))
 f338 := Tryz.func246.trans (congrArg some (by kernel_rfl))
 t0 := Tryz.underlying0
 a0 := Tryz.isAgg0
 z0 := Tryz.sizeOf0
 v0 := Tryz.zeroValue0
 t2 := Tryz.underlying2
 a2 := Tryz.isAgg2
 z2 := Tryz.sizeOf2
 v2 := Tryz.zeroValue2
 t3 := Tryz.underlying3
 a3 := Tryz.isAgg3
 z3 := Tryz.sizeOf3
 v3 := Tryz.zeroValue3
 t4 := Tryz.underlying4
 a4 := Tryz.isAgg4
 z4 := Tryz.sizeOf4
 v4 := Tryz.zeroValue4
 t5 := Tryz.underlying5
 a5 := Tryz.isAgg5
 z5 := Tryz.sizeOf5
 v5 := Tryz.zeroValue5
 t9 := Tryz.underlying9
 a9 := Tryz.isAgg9
 z9 := Tryz.sizeOf9
 v9 := Tryz.zeroValue9
 t20 := Tryz.underlying20
 a20 := Tryz.isAgg20
 z20 := Tryz.sizeOf20
 v20 := Tryz.zeroValue20
 t37 := Tryz.underlying83
 a37 := Tryz.isAgg83
 z37 := Tryz.sizeOf83
 v37 := Tryz.zeroValue83
 t46 := Tryz.underlying191
 a46 := Tryz.isAgg191
 z46 := Tryz.sizeOf191
 v46 := Tryz.zeroValue191
 t51 := Tryz.underlying215
 a51 := Tryz.isAgg215
 z51 := Tryz.sizeOf215
 v51 := Tryz.zeroValue215
 t53 := Tryz.underlying175
 a53 := Tryz.isAgg175
 z53 := Tryz.sizeOf175
 v53 := Tryz.zeroValue175
 t171 := Tryz.underlying222
 a171 := Tryz.isAgg222
 z171 := Tryz.sizeOf222
 v171 := Tryz.zeroValue222
 t173 := Tryz.underlying225
 a173 := Tryz.isAgg225
 z173 := Tryz.sizeOf225
 v173 := Tryz.zeroValue225
 t212 := Tryz.underlying233
 a212 := Tryz.isAgg233
 z212 := Tryz.sizeOf233
 v212 := Tryz.zeroValue233
 t213 := Tryz.underlying234
 a213 := Tryz.isAgg234
 z213 := Tryz.sizeOf234
 t232 := Tryz.underlying248
 a232 := Tryz.isAgg248
 z232 := Tryz.sizeOf248
 v232 := Tryz.zeroValue248
 t233 := Tryz.underlying249
 a233 := Tryz.isAgg249
 z233 := Tryz.sizeOf249
 v233 := Tryz.zeroValue249
 g17 := by kernel_rfl
 g18 := by kernel_rfl
 g19 := by kernel_rfl
 i0 := by kernel_rfl
 i2 := by kernel_rfl
 i3 := by kernel_rfl
 i4 := by kernel_rfl
 i5 := by kernel_rfl
 i9 := by kernel_rfl
 i20 := by kernel_rfl
 i37 := by kernel_rfl
 i46 := by kernel_rfl
 i51 := by kernel_rfl
 i53 := by kernel_rfl
 i171 := by kernel_rfl
 i173 := by kernel_rfl
 i212 := by kernel_rfl
 i232 := by kernel_rfl
 i233 := by kernel_rfl
 m17 := by kernel_rfl
 m18 := by kernel_rfl
 m19 := by kernel_rfl }
open Go.RowKit Go.Sort Go.Lib in
theorem Tryz.strconv_Itoa (n : Int) (h0 : -9223372036854775808 ≤ n) (h1 : n ≤ 9223372036854775807) (w : World) (htab : Lib.TabIs Tryz.prog w "internal/strconv.uint64pow10" .u64 Lib.pow10Tab) :
 Calls Tryz.prog 150 #[.int .i64 n] w fun e w' => e = .returned (.string ⟨(Lib.itoa n).toArray⟩) ∧ ∃ k os, w' = grow (w.drewN k) os := Any.strconv_Itoa Tryz.laysM171 n h0 h1 w htab
def Tryz.lays171_ren : Go.Shelf.Ren := ⟨fun | 171 => 150 | 243 => 189 | 246 => 214 | 283 => 226 | 284 => 227 | 285 => 228 | 286 => 229 | 129 => 238 | 317 => 237 | 318 => 239 | 319 => 240 | 320 => 241 | 337 => 245 | 338 => 246 | n => n, fun | 3 => 3 | 9 => 9 | 2 => 2 | 4 => 4 | 171 => 222 | 0 => 0 | 53 => 175 | 37 => 83 | 5 => 5 | 173 => 225 | 212 => 233 | 51 => 215 | 20 => 20 | 213 => 234 | 46 => 191 | 232 => 248 | 233 => 249 | n => n, fun | 17 => 7 | 18 => 8 | 19 => 9 | n => n⟩
theorem Tryz.lays171 : Go.Proofs.Lays.n171 Tryz.prog Tryz.lays171_ren := {
 mixed := by kernel_rfl
 f129 := Tryz.func238.trans (congrArg some (by kernel_rfl))
 f171 := Tryz.func150.trans (congrArg some (by kernel_rfl))
 f243 := Tryz.func189.trans (congrArg some (by kernel_rfl))
 f246 := Tryz.func214.trans (congrArg some (by kernel_rfl))
 f283 := Tryz.func226.trans (congrArg some (by kernel_rfl))
 f284 := Tryz.func227.trans (congrArg some (by kernel_rfl))
 f285 := Tryz.func228.trans (congrArg some (by kernel_rfl))
 f286 := Tryz.func229.trans (congrArg some (by kernel_rfl))
 f317 := Tryz.func237.trans (congrArg some (by kernel_rfl))
 f318 := Tryz.func239.trans (congrArg some (by kernel_rfl))
 f319 := Tryz.func240.trans (congrArg some (by kernel_rfl))
 f320 := Tryz.func241.trans (congrArg some (by kernel_rfl))
 f337 := Tryz.func245.trans (congrArg some (by kernel_rfl))
 f338 := Tryz.func246.trans (congrArg some (by kernel_rfl))
 t0 := Tryz.underlying0
 a0 := Tryz.isAgg0
 z0 := Tryz.sizeOf0
 v0 := Tryz.zeroValue0
 t2 := Tryz.underlying2
 a2 := Tryz.isAgg2
 z2 := Tryz.sizeOf2
 v2 := Tryz.zeroValue2
 t3 := Tryz.underlying3
 a3 := Tryz.isAgg3
 z3 := Tryz.sizeOf3
 v3 := Tryz.zeroValue3
 t4 := Tryz.underlying4
 a4 := Tryz.isAgg4
 z4 := Tryz.sizeOf4
 v4 := Tryz.zeroValue4
 t5 := Tryz.underlying5
 a5 := Tryz.isAgg5
 z5 := Tryz.sizeOf5
 v5 := Tryz.zeroValue5
 t9 := Tryz.underlying9
 a9 := Tryz.isAgg9
 z9 := Tryz.sizeOf9
 v9 := Tryz.zeroValue9
 t20 := Tryz.underlying20
 a20 := Tryz.isAgg20
 z20 := Tryz.sizeOf20
 v20 := Tryz.zeroValue20
 t37 := Tryz.underlying83
 a37 := Tryz.isAgg83
 z37 := Tryz.sizeOf83
 v37 := Tryz.zeroValue83
 t46 := Tryz.underlying191
 a46 := Tryz.isAgg191
 z46 := Tryz.sizeOf191
 v46 := Tryz.zeroValue191
 t51 := Tryz.underlying215
 a51 := Tryz.isAgg215
 z51 := Tryz.sizeOf215
 v51 := Tryz.zeroValue215
 t53 := Tryz.underlying175
 a53 := Tryz.isAgg175
 z53 := Tryz.sizeOf175
 v53 := Tryz.zeroValue175
 t171 := Tryz.underlying222
 a171 := Tryz.isAgg222
 z171 := Tryz.sizeOf222
 v171 := Tryz.zeroValue222
 t173 := Tryz.underlying225
 a173 := Tryz.isAgg225
 z173 := Tryz.sizeOf225
 v173 := Tryz.zeroValue225
 t212 := Tryz.underlying233
 a212 := Tryz.isAgg233
 z212 := Tryz.sizeOf233
 v212 := Tryz.zeroValue233
 t213 := Tryz.underlying234
 a213 := Tryz.isAgg234
 z213 := Tryz.sizeOf234
 t232 := Tryz.underlying248
 a232 := Tryz.isAgg248
 z232 := Tryz.sizeOf248
 v232 := Tryz.zeroValue248
 t233 := Tryz.underlying249
 a233 := Tryz.isAgg249
 z233 := Tryz.sizeOf249
 v233 := Tryz.zeroValue249
 g17 := by kernel_rfl
 g18 := by kernel_rfl
 g19 := by kernel_rfl }
open Go.RowKit Go.Sort Go.Lib in
theorem Tryz.strconv_Itoa_small (i : Nat) (hi : i < 100) (w : World) :
 Calls Tryz.prog 150 #[.int .i64 i] w fun e w' => e = .returned (.string ⟨(Lib.decDigits i).toArray⟩) ∧ w' = w := Any.strconv_Itoa_small Tryz.lays171 i hi w
def Tryz.laysC172_ren : Go.Shelf.Ren := ⟨fun | 172 => 234 | 244 => 242 | 245 => 243 | 247 => 247 | 279 => 248 | 280 => 249 | 281 => 250 | 282 => 251 | 287 => 252 | 316 => 253 | 171 => 150 | 205 => 254 | 321 => 255 | 322 => 256 | 243 => 189 | 246 => 214 | 283 => 226 | 284 => 227 | 285 => 228 | 286 => 229 | 129 => 238 | 317 => 237 | 318 => 239 | 319 => 240 | 320 => 241 | 337 => 245 | 338 => 246 | n => n, fun | 9 => 9 | 3 => 3 | 75 => 99 | 76 => 101 | 4 => 4 | 5 => 5 | 167 => 242 | 37 => 83 | 0 => 0 | 85 => 243 | 2 => 2 | 168 => 245 | 53 => 175 | 175 => 250 | 46 => 191 | 210 => 253 | 127 => 120 | 145 => 258 | 143 => 256 | 21 => 21 | 171 => 222 | 173 => 225 | 212 => 233 | 51 => 215 | 20 => 20 | 213 => 234 | 232 => 248 | 233 => 249 | 80 => 89 | n => n, fun | 15 => 10 | 16 => 11 | 17 => 7 | 18 => 8 | 19 => 9 | n => n⟩
theorem Tryz.laysC172 : Go.Proofs.LaysC.n172 Tryz.prog Tryz.laysC172_ren := {
 mixed := by kernel_rfl
 f129 := Tryz.func238.trans (congrArg some (by kernel_rfl))
 f171 := Tryz.func150.trans (congrArg some (by kernel_rfl))
 f172 := Tryz.func234.trans (congrArg some (by kernel_rfl))
 f205 := Tryz.func254.trans (congrArg some (by kernel_rfl))
 f243 := Tryz.func189.trans (congrArg some (by kernel_rfl))
 f244 := Tryz.func242.trans (congrArg some (by kernel_rfl))
 f245 := Tryz.func243.trans (congrArg some (by kernel_rfl))
 f246 := Tryz.func214.trans (congrArg some (by kernel_rfl))
 f247 := Tryz.func247.trans (congrArg some (by kernel_rfl))
 f279 := Tryz.func248.trans (congrArg some (by kernel_rfl))
 f280 := Tryz.func249.trans (congrArg some (by kernel_rfl))
 f281 := Tryz.func250.trans (congrArg some (by kernel_rfl))
 f282 := Tryz.func251.trans (congrArg some (by kernel_rfl))
 f283 := Tryz.func226.trans (congrArg some (by kernel_rfl))
 f284 := Tryz.func227.trans (congrArg some (by kernel_rfl))
 f285 := Tryz.func228.trans (congrArg some (by kernel_rfl))
 f286 := Tryz.func229.trans (congrArg some (by kernel_rfl))
 f287 := Tryz.func252.trans (congrArg some (by kernel_rfl))
 f316 := Tryz.func253.trans (congrArg some (by kernel_rfl))
 f317 := Tryz.func237.trans (congrArg some (by kernel_rfl))
 f318 := Tryz.func239.trans (congrArg some (by kernel_rfl))
 f319 := Tryz.func240.trans (congrArg some (by kernel_rfl))
 f320 := Tryz.func241.trans (congrArg some (by kernel_rfl))
 f321 := Tryz.func255.trans (congrArg some (by kernel_rfl))
 f322 := Tryz.func256.trans (congrArg some (by kernel_rfl))
 f337 := Tryz.func245.trans (congrArg some (by kernel_rfl))
 f338 := Tryz.func246.trans (congrArg some (by kernel_rfl))
 t0 := Tryz.underlying0
 a0 := Tryz.isAgg0
 z0 := Tryz.sizeOf0
 v0 := Tryz.zeroValue0
 t2 := Tryz.underlying2
 a2 := Tryz.isAgg2
 z2 := Tryz.sizeOf2
 v2 := Tryz.zeroValue2
 t3 := Tryz.underlying3
 a3 := Tryz.isAgg3
 z3 := Tryz.sizeOf3
 v3 := Tryz.zeroValue3
 t4 := Tryz.underlying4
 a4 := Tryz.isAgg4
 z4 := Tryz.sizeOf4
 v4 := Tryz.zeroValue4
 t5 := Tryz.underlying5
 a5 := Tryz.isAgg5
 z5 := Tryz.sizeOf5
 v5 := Tryz.zeroValue5
 t9 := Tryz.underlying9
 a9 := Tryz.isAgg9
 z9 := Tryz.sizeOf9
 v9 := Tryz.zeroValue9
 t20 := Tryz.underlying20
 a20 := Tryz.isAgg20
 z20 := Tryz.sizeOf20
 v20 := Tryz.zeroValue20
 t21 := Tryz.underlying21
 a21 := Tryz.isAgg21
 z21 := Tryz.sizeOf21
 v21 := Tryz.zeroValue21
 t37 := Tryz.underlying83
 a37 := Tryz.isAgg83
 z37 := Tryz.sizeOf83
 v37 := Tryz.zeroValue83
 t46 := Tryz.underlying191
 a46 := Tryz.isAgg191
 z46 := Tryz.sizeOf191
 v46 := Tryz.zeroValue191
 t51 := Tryz.underlying215
 a51 := Tryz.isAgg215
 z51 := Tryz.sizeOf215
 v51 := Tryz.zeroValue215
 t53 := Tryz.underlying175
 a53 := Tryz.isAgg175
 z53 := Tryz.sizeOf175
 v53 := Tryz.zeroValue175
 t75 := Tryz.underlying99
 a75 := Tryz.isAgg99
 z75 := Tryz.sizeOf99
 v75 := Tryz.zeroValue99
 t76 := Tryz.underlying101
 a76 := Tryz.isAgg101
 z76 := Tryz.sizeOf101
 v76 := Tryz.zeroValue101
 t85 := Tryz.underlying243
 a85 := Tryz.isAgg243
 z85 := Tryz.sizeOf243
 v85 := Tryz.zeroValue243
 t127 := Tryz.underlying120
 a127 := Tryz.isAgg120
 z127 := Tryz.sizeOf120
 v127 := Tryz.zeroValue120
 t143 := Tryz.underlying256
 a143 := Tryz.isAgg256
 z143 := Tryz.sizeOf256
 v143 := Tryz.zeroValue256
 t145 := Tryz.underlying258
 a145 := Tryz.isAgg258
 z145 := Tryz.sizeOf258
 v145 := Tryz.zeroValue258
 t167 := Tryz.underlying242
 a167 := Tryz.isAgg242
 z167 := Tryz.sizeOf242
 v167 := Tryz.zeroValue242
 t168 := Tryz.underlying245
 a168 := Tryz.isAgg245
 z168 := Tryz.sizeOf245
 v168 := Tryz.zeroValue245
 t171 := Tryz.underlying222
 a171 := Tryz.isAgg222
 z171 := Tryz.sizeOf222
 v171 := Tryz.zeroValue222
 t173 := Tryz.underlying225
 a173 := Tryz.isAgg225
 z173 := Tryz.sizeOf225
 v173 := Tryz.zeroValue225
 t175 := Tryz.underlying250
 a175 := Tryz.isAgg250
 z175 := Tryz.sizeOf250
 v175 := Tryz.zeroValue250
 t210 := Tryz.underlying253
 a210 := Tryz.isAgg253
 z210 := Tryz.sizeOf253
 v210 := Tryz.zeroValue253
 t212 := Tryz.underlying233
 a212 := Tryz.isAgg233
 z212 := Tryz.sizeOf233
 v212 := Tryz.zeroValue233
 t213 := Tryz.underlying234
 a213 := Tryz.isAgg234
 z213 := Tryz.sizeOf234
 t232 := Tryz.underlying248
 a232 := Tryz.isAgg248
 z232 := Tryz.sizeOf248
 v232 := Tryz.zeroValue248
 t233 := Tryz.underlying249
 a233 := Tryz.isAgg249
 z233 := Tryz.sizeOf249
 v233 := Tryz.zeroValue249
 g15 := by kernel_rfl
 g16 := by kernel_rfl
 g17 := by kernel_rfl
 g18 := by kernel_rfl
 g19 := by kernel_rfl
 t80 := Tryz.underlying89
 a80 := Tryz.isAgg89
 z80 := Tryz.sizeOf89
 v80 := Tryz.zeroValue89
 i0 := by kernel_rfl
 i2 := by kernel_rfl
 i3 := by kernel_rfl
 i4 := by kernel_rfl
 i5 := by kernel_rfl
 i9 := by kernel_rfl
 i20 := by kernel_rfl
 i21 := by kernel_rfl
 i37 := by kernel_rfl
 i46 := by kernel_rfl
 i51 := by kernel_rfl
 i53 := by kernel_rfl
 i75 := by kernel_rfl
 i76 := by kernel_rfl
 i80 := by kernel_rfl
 i85 := by kernel_rfl
 i127 := by kernel_rfl
 i143 := by kernel_rfl
 i145 := by kernel_rfl
 i167 := by kernel_rfl
 i168 := by kernel_rfl
 i171 := by kernel_rfl
 i173 := by kernel_rfl
 i175 := by kernel_rfl
 i210 := by kernel_rfl
 i212 := by kernel_rfl
 i232 := by kernel_rfl
 i233 := by kernel_rfl
 m15 := by kernel_rfl
 m16 := by kernel_rfl
 m17 := by kernel_rfl
 m18 := by kernel_rfl
 m19 := by kernel_rfl
 c0 := by kernel_rfl
 c2 := by kernel_rfl
 c3 := by kernel_rfl
 c4 := by kernel_rfl
 c5 := by kernel_rfl
 c9 := by kernel_rfl
 c20 := by kernel_rfl
 c21 := by kernel_rfl
 c37 := by kernel_rfl
 c46 := by kernel_rfl
 c51 := by kernel_rfl
 c53 := by kernel_rfl
 c75 := by kernel_rfl
 c76 := by kernel_rfl
 c80 := by kernel_rfl
 c85 := by kernel_rfl
 c127 := by kernel_rfl
 c143 := by kernel_rfl
 c145 := by kernel_rfl
 c167 := by kernel_rfl
 c168 := by kernel_rfl
 c171 := by kernel_rfl
 c173 := by kernel_rfl
 c175 := by kernel_rfl
 c210 := by kernel_rfl
 c212 := by kernel_rfl
 c213 := by kernel_rfl
 c232 := by kernel_rfl
 c233 := by kernel_rfl }
open Go.RowKit in
theorem Tryz.strconv_Atoi_ok (s : ByteArray) (hmax : s.size ≤ 9223372036854775806) (v : Int) (h : Lib.atoiAll s.data.toList = .ok v) (w : World) :
 Calls Tryz.prog 234 #[.string s] w fun e w' => e = .returned (.tuple #[.int .i64 v, .nilIface]) ∧ (w' = w ∨ ∃ t, w' = Lib.bytesWorld w 5 t) := Any.strconv_Atoi_ok Tryz.laysC172 s hmax v h w
open Go.RowKit in
theorem Tryz.strconv_Atoi_range (s : ByteArray) (hlim : s.size ≤ 281474976710656) (h : Lib.atoiAll s.data.toList = .range) (ev : Value) (w : World) (hv : w.cell? ⟨11, 0, none⟩ = some ev) (hev : ev = .nilIface ∨ ∃ te pe, ev = .iface te pe) :
 Calls Tryz.prog 234 #[.string s] w fun e w' => ∃ N, e = .returned (.tuple #[.int .i64 (Lib.atoiSat s.data.toList), .iface 245 (.pointer (some ⟨N, 0, none⟩))]) ∧ w.heap.size ≤ N ∧ w'.heap[N]? = some (.cells #[.string ⟨#[65, 116, 111, 105]⟩, .string s, ev] 253 (0, 0)) ∧ Below w.heap.size w w' := Any.strconv_Atoi_range Tryz.laysC172 s hlim h ev w hv hev
def Tryz.laysGw15_ren : Go.Shelf.Ren := ⟨fun | 15 => 219 | 20 => 233 | n => n, fun | 9 => 9 | 23 => 189 | 3 => 3 | 4 => 4 | 0 => 0 | 21 => 21 | n => n, fun | n => n⟩
theorem Tryz.laysGw15 : Go.Proofs.LaysGw.n15 Tryz.prog Tryz.laysGw15_ren := {
 mixed := by kernel_rfl
 f15 := Tryz.func219.trans (congrArg some (by kernel_rfl))
 f20 := Tryz.func233.trans (congrArg some (by kernel_rfl))
 t0 := Tryz.underlying0
 a0 := Tryz.isAgg0
 z0 := Tryz.sizeOf0
 v0 := Tryz.zeroValue0
 i0 := by kernel_rfl
 t3 := Tryz.underlying3
 a3 := Tryz.isAgg3
 z3 := Tryz.sizeOf3
 v3 := Tryz.zeroValue3
 i3 := by kernel_rfl
 t4 := Tryz.underlying4
 a4 := Tryz.isAgg4
 z4 := Tryz.sizeOf4
 v4 := Tryz.zeroValue4
 i4 := by kernel_rfl
 t9 := Tryz.underlying9
 a9 := Tryz.isAgg9
 z9 := Tryz.sizeOf9
 v9 := Tryz.zeroValue9
 i9 := by kernel_rfl
 t21 := Tryz.underlying21
 a21 := Tryz.isAgg21
 z21 := Tryz.sizeOf21
 v21 := Tryz.zeroValue21
 i21 := by kernel_rfl
 t23 := Tryz.underlying189
 a23 := Tryz.isAgg189
 z23 := Tryz.sizeOf189
 v23 := Tryz.zeroValue189
 i23 := by kernel_rfl }
open Go.RowKit Go.Lib in
theorem Tryz.strings_IndexFunc_runes (g : Nat) (lb : Array Value) (eg : ∀ args w, (callFunc g args).run Tryz.prog w = .ok (.enter g args) w) (p : Nat → Bool) (s : ByteArray) (w : World) (hp : PredAtRunes Tryz.prog g lb p w) :
 Calls Tryz.prog 219 #[.string s, .func (.func g) #[] lb] w fun e w' => e = .returned (.int .i64 (Lib.idxFunc p true s)) ∧ Below w.heap.size w w' := Any.strings_IndexFunc_runes Tryz.laysGw15 g lb eg p s w hp
def Tryz.lays155_ren : Go.Shelf.Ren := ⟨fun | 155 => 60 | 154 => 98 | 138 => 138 | 165 => 139 | 143 => 140 | 166 => 59 | 197 => 141 | 169 => 51 | 195 => 172 | 218 => 173 | 240 => 97 | 241 => 174 | 219 => 175 | 260 => 176 | 276 => 137 | 277 => 202 | 217 => 132 | 225 => 192 | 224 => 191 | 267 => 203 | 266 => 165 | 314 => 218 | n => n, fun | 9 => 9 | 3 => 3 | 4 => 4 | 72 => 85 | 0 => 0 | 76 => 101 | 105 => 164 | 21 => 21 | 5 => 5 | 70 => 82 | 20 => 20 | 37 => 83 | 75 => 99 | 127 => 120 | 164 => 162 | 46 => 191 | 119 => 201 | 139 => 204 | 138 => 203 | 146 => 216 | 51 => 215 | 80 => 89 | n => n, fun | 1 => 3 | 3 => 4 | 4 => 5 | n => n⟩
theorem Tryz.lays155 : Go.Proofs.Lays.n155 Tryz.prog Tryz.lays155_ren := {
 mixed := by kernel_rfl
 f138 := Tryz.func138.trans (congrArg some (by kernel_rfl))
 f143 := Tryz.func140.trans (congrArg some (by kernel_rfl))
 f154 := Tryz.func98.trans (congrArg some (by kernel_rfl))
 f155 := Tryz.func60.trans (congrArg some (by kernel_rfl))
 f165 := Tryz.func139.trans (congrArg some (by kernel_rfl))
 f166 := Tryz.func59.trans (congrArg some (by kernel_rfl))
 f169 := Tryz.func51.trans (congrArg some (by kernel_rfl))
 f195 := Tryz.func172.trans (congrArg some (by kernel_rfl))
 f197 := Tryz.func141.trans (congrArg some (by kernel_rfl))
 f217 := Tryz.func132.trans (congrArg some (by kernel_rfl))
 f218 := Tryz.func173.trans (congrArg some (by kernel_rfl))
 f219 := Tryz.func175.trans (congrArg some (by kernel_rfl))
 f224 := Tryz.func191.trans (congrArg some (by kernel_rfl))
 f225 := Tryz.func192.trans (congrArg some (by kernel_rfl))
 f240 := Tryz.func97.trans (congrArg some (by kernel_rfl))
 f241 := Tryz.func174.trans (congrArg some (by kernel_rfl))
 f260 := Tryz.func176.trans (congrArg some (by kernel_rfl))
 f266 := Tryz.func165.trans (congrArg some (by kernel_rfl))
 f267 := Tryz.func203.trans (congrArg some (by kernel_rfl))
 f276 := Tryz.func137.trans (congrArg some (by kernel_rfl))
 f277 := Tryz.func202.trans (congrArg some (by kernel_rfl))
 f314 := Tryz.func218.trans (congrArg some (by kernel_rfl))
 t0 := Tryz.underlying0
 a0 := Tryz.isAgg0
 z0 := Tryz.sizeOf0
 v0 := Tryz.zeroValue0
 t3 := Tryz.underlying3
 a3 := Tryz.isAgg3
 z3 := Tryz.sizeOf3
 v3 := Tryz.zeroValue3
 t4 := Tryz.underlying4
 a4 := Tryz.isAgg4
 z4 := Tryz.sizeOf4
 v4 := Tryz.zeroValue4
 t5 := Tryz.underlying5
 a5 := Tryz.isAgg5
 z5 := Tryz.sizeOf5
 v5 := Tryz.zeroValue5
 t9 := Tryz.underlying9
 a9 := Tryz.isAgg9
 z9 := Tryz.sizeOf9
 v9 := Tryz.zeroValue9
 t20 := Tryz.underlying20
 a20 := Tryz.isAgg20
 z20 := Tryz.sizeOf20
 v20 := Tryz.zeroValue20
 t21 := Tryz.underlying21
 a21 := Tryz.isAgg21
 z21 := Tryz.sizeOf21
 v21 := Tryz.zeroValue21
 t37 := Tryz.underlying83
 a37 := Tryz.isAgg83
 z37 := Tryz.sizeOf83
 v37 := Tryz.zeroValue83
 t46 := Tryz.underlying191
 a46 := Tryz.isAgg191
 z46 := Tryz.sizeOf191
 v46 := Tryz.zeroValue191
 t51 := Tryz.underlying215
 a51 := Tryz.isAgg215
 z51 := Tryz.sizeOf215
 v51 := Tryz.zeroValue215
 t70 := Tryz.underlying82
 a70 := Tryz.isAgg82
 z70 := Tryz.sizeOf82
 v70 := Tryz.zeroValue82
 t72 := Tryz.underlying85
 a72 := Tryz.isAgg85
 z72 := Tryz.sizeOf85
 v72 := Tryz.zeroValue85
 t75 := Tryz.underlying99
 a75 := Tryz.isAgg99
 z75 := Tryz.sizeOf99
 v75 := Tryz.zeroValue99
 t76 := Tryz.underlying101
 a76 := Tryz.isAgg101
 z76 := Tryz.sizeOf101
 v76 := Tryz.zeroValue101
 t105 := Tryz.underlying164
 a105 := Tryz.isAgg164
 z105 := Tryz.sizeOf164
 v105 := Tryz.zeroValue164
 t119 := Tryz.underlying201
 a119 := Tryz.isAgg201
 z119 := Tryz.sizeOf201
 t127 := Tryz.underlying120
 a127 := Tryz.isAgg120
 z127 := Tryz.sizeOf120
 v127 := Tryz.zeroValue120
 t138 := Tryz.underlying203
 a138 := Tryz.isAgg203
 z138 := Tryz.sizeOf203
 v138 := Tryz.zeroValue203
 t139 := Tryz.underlying204
 a139 := Tryz.isAgg204
 z139 := Tryz.sizeOf204
 v139 := Tryz.zeroValue204
 t146 := Tryz.underlying216
 a146 := Tryz.isAgg216
 z146 := Tryz.sizeOf216
 v146 := Tryz.zeroValue216
 t164 := Tryz.underlying162
 a164 := Tryz.isAgg162
 z164 := Tryz.sizeOf162
 v164 := Tryz.zeroValue162
 g1 := by kernel_rfl
 g3 := by kernel_rfl
 g4 := by kernel_rfl }
theorem Tryz.Builder_Extra_155 : Builder.Extra Tryz.prog Tryz.lays155_ren := {
 sizeBuilder := by kernel_rfl
 liesBuilder := by kernel_rfl
 t5 := Tryz.underlying5
 a5 := Tryz.isAgg5
 z5 := Tryz.sizeOf5
 v5 := Tryz.zeroValue5
 infoByte := by kernel_rfl
 cellsByte := by kernel_rfl
 sizeByte := by kernel_rfl
 neB5 := by decide }
open Go.RowKit Go.Lib in
theorem Tryz.strings_ReplaceAll (s old new : ByteArray) (m : Int) (w : World) (hs : s.size < 4294967281) (hm : w.cell? ⟨3, 0, none⟩ = some (.int .i64 m)) (h1 : 1 ≤ old.size) (hlen : s.size + Lib.countB s old * new.size ≤ 140737488355328) :
 Calls Tryz.prog 60 #[.string s, .string old, .string new] w fun e w' =>
  e = .returned (.string ⟨(Lib.replaceAll s.data.toList old.data.toList new.data.toList).toArray⟩) ∧ Below w.heap.size w w' := Any.strings_ReplaceAll Tryz.lays155 Tryz.Builder_Extra_155 s old new m w hs hm h1 hlen
def Tryz.lays153_ren : Go.Shelf.Ren := ⟨fun | 153 => 119 | 152 => 151 | 226 => 152 | 227 => 153 | 228 => 154 | 137 => 92 | 119 => 190 | 224 => 191 | 225 => 192 | 217 => 132 | 266 => 165 | n => n, fun | 9 => 9 | 3 => 3 | 4 => 4 | 5 => 5 | 21 => 21 | 117 => 172 | 116 => 171 | 0 => 0 | 46 => 191 | 124 => 192 | n => n, fun | n => n⟩
theorem Tryz.lays153 : Go.Proofs.Lays.n153 Tryz.prog Tryz.lays153_ren := {
 mixed := by kernel_rfl
 f119 := Tryz.func190.trans (congrArg some (by kernel_rfl))
 f137 := Tryz.func92.trans (congrArg some (by kernel_rfl))
 f152 := Tryz.func151.trans (congrArg some (by kernel_rfl))
 f153 := Tryz.func119.trans (congrArg some (by kernel_rfl))
 f217 := Tryz.func132.trans (congrArg some (by kernel_rfl))
 f224 := Tryz.func191.trans (congrArg some (by kernel_rfl))
 f225 := Tryz.func192.trans (congrArg some (by kernel_rfl))
 f226 := Tryz.func152.trans (congrArg some (by kernel_rfl))
 f227 := Tryz.func153.trans (congrArg some (by kernel_rfl))
 f228 := Tryz.func154.trans (congrArg some (by kernel_rfl))
 f266 := Tryz.func165.trans (congrArg some (by kernel_rfl))
 t0 := Tryz.underlying0
 a0 := Tryz.isAgg0
 z0 := Tryz.sizeOf0
 v0 := Tryz.zeroValue0
 t3 := Tryz.underlying3
 a3 := Tryz.isAgg3
 z3 := Tryz.sizeOf3
 v3 := Tryz.zeroValue3
 t4 := Tryz.underlying4
 a4 := Tryz.isAgg4
 z4 := Tryz.sizeOf4
 v4 := Tryz.zeroValue4
 t5 := Tryz.underlying5
 a5 := Tryz.isAgg5
 z5 := Tryz.sizeOf5
 v5 := Tryz.zeroValue5
 t9 := Tryz.underlying9
 a9 := Tryz.isAgg9
 z9 := Tryz.sizeOf9
 v9 := Tryz.zeroValue9
 t21 := Tryz.underlying21
 a21 := Tryz.isAgg21
 z21 := Tryz.sizeOf21
 v21 := Tryz.zeroValue21
 t46 := Tryz.underlying191
 a46 := Tryz.isAgg191
 z46 := Tryz.sizeOf191
 v46 := Tryz.zeroValue191
 t116 := Tryz.underlying171
 a116 := Tryz.isAgg171
 z116 := Tryz.sizeOf171
 t117 := Tryz.underlying172
 a117 := Tryz.isAgg172
 z117 := Tryz.sizeOf172
 v117 := Tryz.zeroValue172
 t124 := Tryz.underlying192
 a124 := Tryz.isAgg192
 z124 := Tryz.sizeOf192
 v124 := Tryz.zeroValue192 }
open Go.RowKit Go.Lib in
theorem Tryz.strings_IndexAny_laid (s chars : ByteArray) (w : World) (hs : s.size < 4294967281) (hcs : chars.size < 4294967281) (has : ∀ (j : Nat) b, s.data.toList[j]? = some b → b.toNat < 128) (hac : ∀ (j : Nat) b, chars.data.toList[j]? = some b → b.toNat < 128) :
 Calls Tryz.prog 119 #[.string s, .string chars] w fun e w' => e = .returned (.int .i64 (Lib.indexAny s.data.toList chars.data.toList)) ∧ Below w.heap.size w w' := Any.strings_IndexAny_laid Tryz.lays153 (by kernel_rfl) s chars w hs hcs has hac
end Go.Proofs
namespace Go.Proofs.YtejbbceidnaloaaGreatDoor.P
open Go.RowKit Go.Proofs.YtejbbceidnaloaaGreatDoorW.PrintWords Go.Proofs.YtejbbceidnaloaaGreatDoorW.PrintLast
set_option linter.unusedVariables false
set_option linter.unusedSimpArgs false
theorem encode_ascii (n : Int) (h0 : 0 ≤ n) (h1 : n < 128) : Utf8.encode n = ⟨#[UInt8.ofNat n.toNat]⟩ := by
 have hv : Utf8.valid n = true := by unfold Utf8.valid; simp; omega
 unfold Utf8.encode
 simp only [hv, if_true]
 rw [if_pos (by omega)]
def colB (n : Int) : ByteArray :=
 if n < 0 then ⟨#[]⟩ else if 256 ≤ n then ⟨#[]⟩ else if n < 26 then ⟨#[UInt8.ofNat (65 + n).toNat]⟩
 else ⟨#[UInt8.ofNat (65 + n / 26 - 1).toNat]⟩ ++ ⟨#[UInt8.ofNat (65 + n % 26).toNat]⟩
theorem column_any (n : Int) (w : World) : Calls Tryz.prog 104 #[.int .i64 n] w fun e w' => e = .returned (.bool (decide (0 ≤ n ∧ n < 256))) ∧ w = w' := by
 by_cases h : 0 ≤ n
 ·have hd : decide (0 ≤ n) = true := decide_eq_true h
  have hx : decide (0 ≤ n ∧ n < 256) = decide (n < 256) := by simp [h]
  rw [hx]
  clear hx
  go_enter Tryz.func104, Tryz.ntmps104
  go_wp2
  go_ret
  exact ⟨rfl, rfl⟩
 ·have hd : decide (0 ≤ n) = false := decide_eq_false h
  have hx : decide (0 ≤ n ∧ n < 256) = false := by simp [h]
  rw [hx]
  clear hx
  go_enter Tryz.func104, Tryz.ntmps104
  go_wp2
  go_ret
  exact ⟨rfl, rfl⟩
theorem col_any (n : Int) (w : World) : Calls Tryz.prog 149 #[.int .i64 n] w fun e w' => e = .returned (.string (colB n)) ∧ w = w' := by
 by_cases h : 0 ≤ n ∧ n < 256
 ·have hd : decide (0 ≤ n ∧ n < 256) = true := decide_eq_true h
  obtain ⟨h0, h1⟩ := h
  by_cases h2 : n < 26
  ·have hd2 : decide (n < 26) = true := decide_eq_true h2
   have hc : colB n = Utf8.encode (65 + n) := by
    unfold colB; rw [encode_ascii _ (by omega) (by omega), if_neg (by omega), if_neg (by omega), if_pos h2]
   rw [hc]
   clear hc
   go_enter Tryz.func149, Tryz.ntmps149
   go_wp2_with (go_at_call 104; refine (column_any _ _).mono ?_; rintro e w' ⟨rfl, rfl⟩; rw [hd])
   go_ret
   exact ⟨rfl, rfl⟩
  ·have hd2 : decide (n < 26) = false := decide_eq_false h2
   have hc : colB n = Utf8.encode (65 + n / 26 - 1) ++ Utf8.encode (65 + n % 26) := by
    unfold colB; rw [encode_ascii _ (by omega) (by omega), encode_ascii _ (by omega) (by omega), if_neg (by omega), if_neg (by omega), if_neg h2]
   rw [hc]
   clear hc
   have hsz : (Utf8.encode (65 + n / 26 - 1)).size + (Utf8.encode (65 + n % 26)).size ≤ 9223372036854775807 := by
    rw [encode_ascii _ (by omega) (by omega), encode_ascii _ (by omega) (by omega)]; simp [ByteArray.size]
   go_enter Tryz.func149, Tryz.ntmps149
   go_wp2_with (go_at_call 104; refine (column_any _ _).mono ?_; rintro e w' ⟨rfl, rfl⟩; rw [hd])
   go_ret
   exact ⟨rfl, rfl⟩
 ·have hd : decide (0 ≤ n ∧ n < 256) = false := decide_eq_false h
  have hc : colB n = ⟨#[]⟩ := by
   unfold colB
   by_cases h0 : n < 0
   ·rw [if_pos h0]
   ·rw [if_neg h0, if_pos (by omega)]
  rw [hc]
  clear hc
  go_enter Tryz.func149, Tryz.ntmps149
  go_wp2_with (go_at_call 104; refine (column_any _ _).mono ?_; rintro e w' ⟨rfl, rfl⟩; rw [hd])
  go_ret
  exact ⟨rfl, rfl⟩
def place_Col.f (a0 : Int) : Option (ByteArray) := some (colB a0)
theorem place_Col.calls (a0 : Int) (r : ByteArray) (w : World) (h : place_Col.f a0 = some r) :
 Calls Tryz.prog 149 #[.int .i64 a0] w fun e w' => e = .returned (.string r) ∧ Drawn0 w w' := by
 obtain rfl := Option.some.inj h
 exact (col_any a0 w).mono fun e w' ⟨he, hw⟩ => ⟨he, hw ▸ Drawn0.refl _⟩
theorem row_any (n : Int) (w : World) : Calls Tryz.prog 103 #[.int .i64 n] w fun e w' => e = .returned (.bool (decide (0 ≤ n ∧ n < 65536))) ∧ w = w' := by
 by_cases h : 0 ≤ n
 ·have hd : decide (0 ≤ n) = true := decide_eq_true h
  have hx : decide (0 ≤ n ∧ n < 65536) = decide (n < 65536) := by simp [h]
  rw [hx]
  clear hx
  go_enter Tryz.func103, Tryz.ntmps103
  go_wp2
  go_ret
  exact ⟨rfl, rfl⟩
 ·have hd : decide (0 ≤ n) = false := decide_eq_false h
  have hx : decide (0 ≤ n ∧ n < 65536) = false := by simp [h]
  rw [hx]
  clear hx
  go_enter Tryz.func103, Tryz.ntmps103
  go_wp2
  go_ret
  exact ⟨rfl, rfl⟩
def upAt (s : ByteArray) (i : Int) : Bool := decide (i < s.size) && decide (65 ≤ bt s i) && decide (bt s i ≤ 90)
def headN (s : ByteArray) : Nat := if upAt s 0 then (if upAt s 1 then 2 else 1) else 0
def headC (s : ByteArray) : Int := if upAt s 0 then (if upAt s 1 then 26 * (bt s 0 - 65 + 1) + (bt s 1 - 65) else bt s 0 - 65) else -1
def AtHead (s : ByteArray) (v5 v6 : Value) : Prop := v5 = .int .i64 (headN s : Nat) ∧ v6 = .int .i64 (headC s)
theorem head_two {s : ByteArray} (h0 : 65 ≤ bt s 0) (h1 : bt s 0 ≤ 90) (hl : 1 < (s.size : Int)) (h2 : 65 ≤ bt s 1) (h3 : bt s 1 ≤ 90) : headN s = 2 ∧ headC s = 26 * (bt s 0 - 65 + 1) + (bt s 1 - 65) := by
 have a : upAt s 0 = true := by unfold upAt; simp [h0, h1]; omega
 have b : upAt s 1 = true := by unfold upAt; simp [h2, h3]; omega
 simp [headN, headC, a, b]
theorem head_one {s : ByteArray} (h0 : 65 ≤ bt s 0) (h1 : bt s 0 ≤ 90) (hl : 0 < (s.size : Int)) (h : ¬ (1 < (s.size : Int) ∧ 65 ≤ bt s 1 ∧ bt s 1 ≤ 90)) : headN s = 1 ∧ headC s = bt s 0 - 65 := by
 have a : upAt s 0 = true := by unfold upAt; simp [h0, h1]; omega
 have b : upAt s 1 = false := by unfold upAt; simp; omega
 simp [headN, headC, a, b]
theorem head_none {s : ByteArray} (h : ¬ (0 < (s.size : Int) ∧ 65 ≤ bt s 0 ∧ bt s 0 ≤ 90)) : headN s = 0 ∧ headC s = -1 := by
 have a : upAt s 0 = false := by unfold upAt; simp; omega
 simp [headN, headC, a]
theorem head_le (s : ByteArray) : headN s ≤ 2 ∧ headN s ≤ s.size := by
 unfold headN
 by_cases a : upAt s 0 = true
 ·by_cases b : upAt s 1 = true
  ·rw [if_pos a, if_pos b]; unfold upAt at b; simp at b; omega
  ·rw [if_pos a, if_neg b]; unfold upAt at a; simp at a; omega
 ·rw [if_neg a]; omega
theorem headC_le (s : ByteArray) : -1 ≤ headC s ∧ headC s ≤ 5000 := by
 have r0 := bt_range s 0
 have r1 := bt_range s 1
 unfold headC
 by_cases a : upAt s 0 = true
 ·by_cases b : upAt s 1 = true
  ·rw [if_pos a, if_pos b]; unfold upAt at a b; simp at a b; omega
  ·rw [if_pos a, if_neg b]; unfold upAt at a; simp at a; omega
 ·rw [if_neg a]; omega
def faultsL : List ByteArray := [⟨#[35, 68, 73, 86, 47, 48, 33]⟩, ⟨#[35, 86, 65, 76, 85, 69, 33]⟩, ⟨#[35, 82, 69, 70, 33]⟩, ⟨#[35, 78, 85, 77, 33]⟩, ⟨#[35, 78, 47, 65]⟩, ⟨#[35, 67, 73, 82, 67, 76, 69, 33]⟩, ⟨#[35, 76, 79, 78, 71, 33]⟩, ⟨#[35, 65, 82, 71, 33]⟩]
def pairsL : List ByteArray := [⟨#[60, 62]⟩, ⟨#[60, 61]⟩, ⟨#[62, 61]⟩]
structure GL (w : World) : Prop where
 tab : Lib.TabIs Tryz.prog w "internal/strconv.uint64pow10" .u64 Lib.pow10Tab
 syn : ∃ t p, w.cell? ⟨10, 0, none⟩ = some (.iface t p)
 rng : ∃ t p, w.cell? ⟨11, 0, none⟩ = some (.iface t p)
 maxl : ∃ m, w.cell? ⟨3, 0, none⟩ = some (.int .i64 m)
 fau : Kd.C Kd.string w (some ⟨0, 0, none⟩) faultsL.length faultsL
 prs : Kd.C Kd.string w (some ⟨1, 0, none⟩) pairsL.length pairsL
 nms : Kd.C Kd.string w (some ⟨2, 0, none⟩) faultsL.length faultsL
theorem gTab : Tryz.prog.globalNamed "internal/strconv.uint64pow10" = some 7 := by kernel_rfl
theorem GL.below {w w' : World} (h : GL w) (hb : Below w.heap.size w w') : GL w' := by
 obtain ⟨ht, ⟨t1, p1, h1⟩, ⟨t2, p2, h2⟩, ⟨m, hm⟩, hf, hp, hn⟩ := h
 exact ⟨Joins.tab_stays gTab ht hb (Nat.le_refl _), ⟨t1, p1, (hb.cell (World.block_lt_of_cell? _ _ h1)).trans h1⟩, ⟨t2, p2, (hb.cell (World.block_lt_of_cell? _ _ h2)).trans h2⟩, ⟨m, (hb.cell (World.block_lt_of_cell? _ _ hm)).trans hm⟩, Kd.C_below hf hb, Kd.C_below hp hb, Kd.C_below hn hb⟩
theorem itoa_any (n : Int) (w : World) (h0 : -9223372036854775808 ≤ n) (h1 : n ≤ 9223372036854775807) (hG : (0 ≤ n ∧ n < 100) ∨ GL w) :
 Calls Tryz.prog 150 #[.int .i64 n] w fun e w' => e = .returned (.string ⟨(Lib.itoa n).toArray⟩) ∧ Below w.heap.size w w' := by
 rcases hG with ⟨a, b⟩ | hG
 ·obtain ⟨k, rfl⟩ := Int.eq_ofNat_of_zero_le a
  have e : Lib.itoa (k : Int) = Lib.decDigits k := by unfold Lib.itoa; rw [if_neg (by omega), Int.toNat_natCast]
  rw [e]
  exact (Tryz.strconv_Itoa_small k (by omega) w).mono fun e w' ⟨he, hw⟩ => ⟨he, by rw [hw]; exact Below.refl _ _⟩
 ·exact (Tryz.strconv_Itoa n h0 h1 w hG.tab).mono fun e w' ⟨he, k, os, hw⟩ => ⟨he, by rw [hw]; exact Lib.below_grow _ _ (Nat.le_refl _) _ _⟩
def tailF (T : ByteArray) (C : Int) : Int × Int × Bool :=
 match Lib.atoiAll T.data.toList with
 | .ok v => if Lib.itoa v = T.data.toList ∧ (0 ≤ v - 1 ∧ v - 1 < 65536) ∧ (0 ≤ C ∧ C < 256) then (v - 1, C, true) else (0, 0, false)
 | _ => (0, 0, false)
theorem bdN {B : Nat} {a w : World} (h : Below B a w) (n : Nat) : Below B a (w.drewN n) := ⟨h.os, h.tape, h.output, h.size, h.block⟩
theorem bnx {w a b : World} (h : Below w.heap.size w a) (k : Below a.heap.size a b) : Below w.heap.size w b := h.trans (k.mono h.size)
theorem bnxd {w a b : World} (h : Below w.heap.size w a) (k : Below a.drew.heap.size a.drew b) : Below w.heap.size w b := h.drew.trans (k.mono h.size)
def readF (s : ByteArray) : Int × Int × Bool := tailF (s.extract (headN s) s.size) (headC s)
theorem readF_eq (s : ByteArray) : readF s = tailF (s.extract (headN s) s.size) (headC s) := rfl
def readG (s : ByteArray) (w : World) : Prop := (∃ v, Lib.atoiAll (s.extract (headN s) s.size).data.toList = .ok v ∧ 0 ≤ v ∧ v < 100) ∨ GL w
theorem row_is (n : Int) (b : Bool) (w : World) (h : decide (0 ≤ n ∧ n < 65536) = b) : Calls Tryz.prog 103 #[.int .i64 n] w fun e w' => e = .returned (.bool b) ∧ w = w' := by
 have := row_any n w; rwa [h] at this
theorem column_is (n : Int) (b : Bool) (w : World) (h : decide (0 ≤ n ∧ n < 256) = b) : Calls Tryz.prog 104 #[.int .i64 n] w fun e w' => e = .returned (.bool b) ∧ w = w' := by
 have := column_any n w; rwa [h] at this
def ReadPost (s : ByteArray) (w : World) (e : Ending) (w' : World) : Prop := e = .returned (.tuple #[.int .i64 (readF s).1, .int .i64 (readF s).2.1, .bool (readF s).2.2]) ∧ Below w.heap.size w w'
set_option maxRecDepth 100000 in
set_option maxHeartbeats 4000000 in
theorem read_any (s : ByteArray) (w : World) (hs : s.size ≤ 140737488351232) (hG : readG s w) : Calls Tryz.prog 221 #[.string s] w (ReadPost s w) := by
 have e0 : ∀ h : 0 < s.size, ((s[0]'h).toNat : Int) = bt s 0 := fun h => bt_at s 0 h
 have e1 : ∀ h : 1 < s.size, ((s[1]'h).toNat : Int) = bt s 1 := fun h => bt_at s 1 h
 have r0 := bt_range s 0
 have r1 := bt_range s 1
 have HG := lh hG
 clear hG
 go_enter Tryz.func221, Tryz.ntmps221
 go_upto_block 0 with (fail)
 go_cut [5, 6] (fun v5 v6 w' => AtHead s v5 v6 ∧ w = w')
 case first =>
  go_wp2
  refine wp_loop_rounds 3 ?_
  rw [rounds_succ]
  go_wp2_with fail
  all_goals try (rw [rounds_succ]; go_wp2_with fail)
  all_goals try (rw [rounds_succ]; go_wp2_with fail)
  all_goals
   go_meet
   refine ⟨?_, rfl⟩
   first
    | (have h := head_two (s := s) (by assumption) (by assumption) (by omega) (by assumption) (by assumption); exact ⟨by rw [h.1]; rfl, by rw [h.2]⟩)
    | (have h := head_one (s := s) (by assumption) (by assumption) (by omega) (by omega); exact ⟨by rw [h.1]; rfl, by rw [h.2]⟩)
    | (have h := head_none (s := s) (by omega); exact ⟨by rw [h.1]; rfl, by rw [h.2]⟩)
 case rest =>
  clear e0 e1 r0 r1
  obtain ⟨⟨rfl, rfl⟩, rfl⟩ := hcut
  have hl := head_le s
  have hc := headC_le s
  have HF := lh (readF_eq s)
  unfold readG at HG
  generalize headN s = k at *
  generalize headC s = C at *
  obtain ⟨hl1, hl2⟩ := hl
  obtain ⟨hc1, hc2⟩ := hc
  have hT : (s.extract k s.size).size ≤ 140737488351232 := by rw [ByteArray.size_extract]; omega
  cases hat : Lib.atoiAll (s.extract k s.size).data.toList with
  | range =>
   have hf : readF s = (0, 0, false) := by rw [HF.out]; unfold tailF; rw [hat]
   have hGL : GL w := by rcases HG.out with ⟨v, e, _⟩ | g; (· rw [hat] at e; cases e); exact g
   obtain ⟨t1, p1, hv⟩ := hGL.rng
   have HV := lh hv
   have HA := lh hat
   clear hv hat hGL
   have HF2 := lh hf
   clear hf HF HG
   go_wp2_with (go_at_call 234; refine (Tryz.strconv_Atoi_range _ (by omega) HA.out _ _ HV.out (.inr ⟨_, _, rfl⟩)).mono ?_; rintro e w' ⟨N, rfl, _, _, hb⟩)
   go_quiet (fail)
   go_wp2
   go_ret3
   exact ⟨by rw [HF2.out]; rfl, bdN hb _⟩
  | ok v =>
   have hv := Lib.atoiAll_bounds hat
   obtain ⟨hv0, hv1⟩ := hv
   have hf : readF s = if Lib.itoa v = (s.extract k s.size).data.toList ∧ (0 ≤ v - 1 ∧ v - 1 < 65536) ∧ (0 ≤ C ∧ C < 256) then (v - 1, C, true) else (0, 0, false) := by rw [HF.out]; unfold tailF; rw [hat]
   have hGL : (0 ≤ v ∧ v < 100) ∨ GL w := by
    rcases HG.out with ⟨v', e, h⟩ | g
    ·rw [hat] at e; injection e with e; subst e; exact .inl h
    ·exact .inr g
   have HGL := lh hGL
   have HA := lh hat
   clear hGL hat HG HF
   obtain ⟨R, hR⟩ : ∃ R : ByteArray, (⟨(Lib.itoa v).toArray⟩ : ByteArray) = R := ⟨_, rfl⟩
   have hRl : R.toList = Lib.itoa v := by rw [← hR]; exact ByteArray.toList_eq _
   have HC : ∀ W, Below w.heap.size w W → Calls Tryz.prog 150 #[.int .i64 v] W fun e w' => e = .returned (.string R) ∧ Below W.heap.size W w' := fun W hb => by
    rw [← hR]
    exact itoa_any v W hv0 hv1 (HGL.out.imp id fun g => g.below hb)
   have HIT := lh HC
   clear HC HGL hR
   by_cases c1 : Lib.itoa v = (s.extract k s.size).data.toList
   ·have ht : (R.toList == (s.extract k s.size).toList) = true := by rw [hRl, c1, ByteArray.toList_eq]; simp
    have ht2 : (R.toList != (s.extract k s.size).toList) = false := by rw [hRl, c1, ByteArray.toList_eq]; simp
    by_cases c2 : 0 ≤ v - 1 ∧ v - 1 < 65536
    ·have wv : IntKind.i64.wrap (v - 1) = v - 1 := by rw [IntKind.wrap_i64]; omega
     by_cases c3 : 0 ≤ C ∧ C < 256
     ·rw [if_pos ⟨c1, c2, c3⟩] at hf
      have HF2 := lh hf
      obtain ⟨c2a, c2b⟩ := c2
      obtain ⟨c3a, c3b⟩ := c3
      clear c1
      clear hf hRl
      go_wp2_with (go_at_call 234; refine (Tryz.strconv_Atoi_ok _ (by omega) v HA.out _).mono ?_; rintro e w' ⟨rfl, hw⟩)
      have hb0 : Below w.heap.size w w' := by rcases hw with rfl | ⟨t, rfl⟩; exact Below.refl _ _; exact Lib.bytesWorld_below _ _ _
      clear hw
      go_region_held3 (fun W => Below w.heap.size w W) (first | assumption | exact Below.drew (by assumption) | exact bdN (by assumption) _ | exact bnx (by assumption) (by assumption) | exact bnxd (by assumption) (by assumption)) (first | (go_at_call 150; refine (HIT.out _ (by first | assumption | exact Below.drew (by assumption) | exact bdN (by assumption) _)).mono ?_; rintro e w1 ⟨rfl, hw1⟩) | (go_at_call 103; refine (row_is _ true _ (decide_eq_true ⟨by omega, by omega⟩)).mono ?_; rintro e w2 ⟨rfl, rfl⟩) | (go_at_call 104; refine (column_is _ true _ (decide_eq_true ⟨by omega, by omega⟩)).mono ?_; rintro e w3 ⟨rfl, rfl⟩))
      all_goals go_wp2
      all_goals go_ret3
      all_goals exact ⟨by rw [HF2.out]; rfl, by first | assumption | exact Below.drew (by assumption) | exact bdN (by assumption) _⟩
     ·rw [if_neg (fun h => c3 h.2.2)] at hf
      have HF2 := lh hf
      obtain ⟨c2a, c2b⟩ := c2
      have d3 := decide_eq_false c3
      clear c1 c3
      clear hf hRl
      go_wp2_with (go_at_call 234; refine (Tryz.strconv_Atoi_ok _ (by omega) v HA.out _).mono ?_; rintro e w' ⟨rfl, hw⟩)
      have hb0 : Below w.heap.size w w' := by rcases hw with rfl | ⟨t, rfl⟩; exact Below.refl _ _; exact Lib.bytesWorld_below _ _ _
      clear hw
      go_region_held3 (fun W => Below w.heap.size w W) (first | assumption | exact Below.drew (by assumption) | exact bdN (by assumption) _ | exact bnx (by assumption) (by assumption) | exact bnxd (by assumption) (by assumption)) (first | (go_at_call 150; refine (HIT.out _ (by first | assumption | exact Below.drew (by assumption) | exact bdN (by assumption) _)).mono ?_; rintro e w1 ⟨rfl, hw1⟩) | (go_at_call 103; refine (row_is _ true _ (decide_eq_true ⟨by omega, by omega⟩)).mono ?_; rintro e w2 ⟨rfl, rfl⟩) | (go_at_call 104; refine (column_is _ false _ d3).mono ?_; rintro e w3 ⟨rfl, rfl⟩))
      all_goals go_wp2
      all_goals go_ret3
      all_goals exact ⟨by rw [HF2.out]; rfl, by first | assumption | exact Below.drew (by assumption) | exact bdN (by assumption) _⟩
    ·rw [if_neg (fun h => c2 h.2.1)] at hf
     have HF2 := lh hf
     have d2 : decide (0 ≤ wrap64 (v - 1) ∧ wrap64 (v - 1) < 65536) = false := decide_eq_false (by unfold wrap64; omega)
     clear c1 c2
     clear hf hRl
     go_wp2_with (go_at_call 234; refine (Tryz.strconv_Atoi_ok _ (by omega) v HA.out _).mono ?_; rintro e w' ⟨rfl, hw⟩)
     have hb0 : Below w.heap.size w w' := by rcases hw with rfl | ⟨t, rfl⟩; exact Below.refl _ _; exact Lib.bytesWorld_below _ _ _
     clear hw
     refine start_ (n := 21) (S := fun w' => Below w.heap.size w w') (ds := []) #[false, false, false, false, false, false, false, false, false, false, false, false, false, false, false, false, false, false, false, false, false] (by kernel_rfl) rfl rfl (hb0.drew) (fun hHeld => ?_)
     refine pP 0 47 ?_
     refine pP 1 48 ?_
     refine pP 2 49 ?_
     refine pP 3 50 ?_
     refine pP 5 52 ?_
     refine pP 6 53 ?_
     refine pP 7 54 ?_
     refine one_ (i := 4) (N := some 51) #[true, true, true, true, true, true, true, true, false, false, false, false, false, false, false, false, false, false, false, false, false] rfl rfl (by kernel_rfl) (by decide) (fun K hK => ?_)
     refine goes_ Tryz.func150 (by kernel_rfl) rfl #[.int .i64 v] (by rfl) rfl rfl (by simp only [List.map_toArray, List.map_cons, List.map_nil]; rfl) ?_
     with_reducible refine (HIT.out _ (by first | exact hHeld | exact Below.drew hHeld | exact bdN hHeld _)).mono ?_
     rintro e w1 ⟨rfl, hw1⟩
     refine ⟨_, rfl, ?_⟩
     refine hK.out _ _ (bnx hHeld hw1) (fun hHeld => ?_)
     clear hK K
     refine nP 51 ?_
     refine pP 8 55 ?_
     refine pP 9 56 ?_
     refine pP 10 57 ?_
     refine pP 11 58 ?_
     refine pP 12 59 ?_
     refine one_ (i := 13) (N := some 60) #[true, true, true, true, true, true, true, true, true, true, true, true, true, true, false, false, false, false, false, false, false] rfl rfl (by kernel_rfl) (by decide) (fun K hK => ?_)
     refine goes_ Tryz.func103 (by kernel_rfl) rfl #[.int .i64 (wrap64 (v - 1))] (by rfl) rfl rfl (by simp only [List.map_toArray, List.map_cons, List.map_nil]; rfl) ?_
     with_reducible refine (row_is _ false _ d2).mono ?_
     rintro e w2 ⟨rfl, rfl⟩
     refine ⟨_, rfl, ?_⟩
     refine hK.out _ _ (hHeld) (fun hHeld => ?_)
     clear hK K
     refine nP 60 ?_
     refine pP 14 61 ?_
     refine pP 15 62 ?_
     refine pP 16 63 ?_
     refine uP 17 64 ?_
     refine uP 18 65 ?_
     refine uP 19 66 ?_
     refine pP 20 67 ?_
     refine done_ (by kernel_rfl) ?_
     all_goals go_wp2
     all_goals go_ret3
     all_goals exact ⟨by rw [HF2.out]; rfl, by first | assumption | exact Below.drew (by assumption) | exact bdN (by assumption) _⟩
   ·rw [if_neg (fun h => c1 h.1)] at hf
    have HF2 := lh hf
    have ht : (R.toList == (s.extract k s.size).toList) = false := by rw [hRl, ByteArray.toList_eq]; exact beq_eq_false_iff_ne.mpr c1
    have ht2 : (R.toList != (s.extract k s.size).toList) = true := by rw [hRl, ByteArray.toList_eq]; exact bne_iff_ne.mpr c1
    clear c1
    clear hf hRl
    go_wp2_with (go_at_call 234; refine (Tryz.strconv_Atoi_ok _ (by omega) v HA.out _).mono ?_; rintro e w' ⟨rfl, hw⟩)
    have hb0 : Below w.heap.size w w' := by rcases hw with rfl | ⟨t, rfl⟩; exact Below.refl _ _; exact Lib.bytesWorld_below _ _ _
    clear hw
    refine start_ (n := 21) (S := fun w' => Below w.heap.size w w') (ds := []) #[false, false, false, false, false, false, false, false, false, false, false, false, false, false, false, false, false, false, false, false, false] (by kernel_rfl) rfl rfl (hb0.drew) (fun hHeld => ?_)
    refine pP 0 47 ?_
    refine pP 1 48 ?_
    refine pP 2 49 ?_
    refine pP 3 50 ?_
    refine pP 5 52 ?_
    refine pP 6 53 ?_
    refine pP 7 54 ?_
    refine one_ (i := 4) (N := some 51) #[true, true, true, true, true, true, true, true, false, false, false, false, false, false, false, false, false, false, false, false, false] rfl rfl (by kernel_rfl) (by decide) (fun K hK => ?_)
    refine goes_ Tryz.func150 (by kernel_rfl) rfl #[.int .i64 v] (by rfl) rfl rfl (by simp only [List.map_toArray, List.map_cons, List.map_nil]; rfl) ?_
    with_reducible refine (HIT.out _ (by first | exact hHeld | exact Below.drew hHeld | exact bdN hHeld _)).mono ?_
    rintro e w1 ⟨rfl, hw1⟩
    refine ⟨_, rfl, ?_⟩
    refine hK.out _ _ (bnx hHeld hw1) (fun hHeld => ?_)
    clear hK K
    refine nP 51 ?_
    refine pP 8 55 ?_
    refine pP 9 56 ?_
    refine pP 10 57 ?_
    refine uP 11 58 ?_
    refine uP 12 59 ?_
    refine uP 13 60 ?_
    refine uP 14 61 ?_
    refine pP 15 62 ?_
    refine pP 16 63 ?_
    refine uP 17 64 ?_
    refine uP 18 65 ?_
    refine uP 19 66 ?_
    refine pP 20 67 ?_
    refine done_ (by kernel_rfl) ?_
    all_goals go_wp2
    all_goals go_ret3
    all_goals exact ⟨by rw [HF2.out]; rfl, by first | assumption | exact Below.drew (by assumption) | exact bdN (by assumption) _⟩
  | _ =>
   have hf : readF s = (0, 0, false) := by rw [HF.out]; unfold tailF; rw [hat]
   have hGL : GL w := by rcases HG.out with ⟨v, e, _⟩ | g; (· rw [hat] at e; cases e); exact g
   obtain ⟨t1, p1, hv⟩ := hGL.syn
   have HV := lh hv
   have HA := lh hat
   clear hv hat hGL
   have HF2 := lh hf
   clear hf HF HG
   go_wp2_with (go_at_call 234; refine (Any.strconv_Atoi_syntax Tryz.laysC172 _ (by omega) HA.out _ _ HV.out (.inr ⟨_, _, rfl⟩)).mono ?_; rintro e w' ⟨N, rfl, _, _, hb⟩)
   go_quiet (fail)
   go_wp2
   go_ret3
   exact ⟨by rw [HF2.out]; rfl, bdN hb _⟩
end Go.Proofs.YtejbbceidnaloaaGreatDoor.P
