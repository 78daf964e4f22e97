/-
  The texts that the claim wants, one behind the other: part 10.
-/
import Derived.Test.YtnpkejnaeemgjaaGreatDoorS9
import Derived.Shelf.Strings.Builder1
import Derived.Shelf.Strings.Trim
import Derived.Shelf.Small.Utf8
import Derived.Shelf.Small.Bits
import Derived.Shelf.Small.Strs
import Derived.Shelf.Strings.BuilderF
import Derived.Shelf.Strings.BuilderK
import Derived.Shelf.Utf8.RuneCount
import Derived.Shelf.Strconv.Itoa0
import Derived.Shelf.Strconv.Itoa1
import Derived.Shelf.LaysM
import Derived.Shelf.Strconv.Itoa2
import Derived.Shelf.Strconv.Itoa3
import Derived.Shelf.Strconv.ParseIntEmpty
import Derived.Shelf.Strconv.Clone
import Derived.Shelf.Strconv.SyntaxError
import Derived.Shelf.LaysC
import Derived.Shelf.Strconv.ToError
import Derived.Shelf.Strconv.Lower
import Derived.Shelf.Strconv.ParseUint10
import Derived.Shelf.Strconv.ParseUint10Empty
import Derived.Shelf.Strconv.ParseUint10Any
import Derived.Shelf.Strconv.ParseInt10
import Derived.Shelf.Strconv.RangeError
import Derived.Shelf.Strconv.ToErrorRange
import Derived.Shelf.Strconv.ParseUintEmpty
import Derived.Shelf.Strconv.ParseUint10b64
import Derived.Shelf.Strconv.ParseUint10b32
import Derived.Shelf.Strconv.ParseUint10b16
import Derived.Shelf.Strconv.ParseUint10b8
import Derived.Shelf.Strconv.ParseUint10At
import Derived.Shelf.Strconv.ParseInt10At64
import Derived.Shelf.Strconv.ParseInt10At32
import Derived.Shelf.Strconv.ParseInt10At16
import Derived.Shelf.Strconv.ParseInt10At8
import Derived.Shelf.Strconv.ParseInt10All
import Derived.Shelf.Strconv.ParseIntPublic10
import Derived.Shelf.Strconv.ErrVarParseInt
import Derived.Shelf.Strings.Search1
import Derived.Shelf.Strings.Search2
import Derived.Shelf.Strings.Search3
import Derived.Shelf.Strings.Cut
import Derived.Shelf.Strings.Count
import Derived.Shelf.Strings.Shaped
import Derived.Shelf.Strings.Prefix
import Derived.Shelf.Strings.Split
import Derived.Shelf.Strings.SplitShaped
import Derived.Shelf.Unicode.Decode
import Derived.Shelf.Strings.Runes
import Derived.Shelf.Strings.RuneCount
import Derived.Shelf.Strings.AsciiSet
import Derived.Shelf.Strings.Explode
import Derived.Shelf.Unicode.DecodeSlow
import Derived.Shelf.Unicode.DecodeAny
import Derived.Shelf.Unicode.DecodeLast
import Derived.Test.YtnpkejnaeemgjaaGreatDoorProg
set_option linter.unusedSimpArgs false
set_option linter.unusedVariables false
namespace Go.Proofs
abbrev synR := Lib.atoiAll []
open Go.Shelf
def Tryz.lays169_ren : Go.Shelf.Ren := ⟨fun | 169 => 176 | n => n, fun | 70 => 192 | 9 => 9 | 0 => 0 | 72 => 194 | 37 => 26 | 127 => 218 | 3 => 3 | 5 => 5 | n => n, fun | n => n⟩
theorem Tryz.lays169 : Go.Proofs.Lays.n169 Tryz.prog Tryz.lays169_ren := {
 mixed := by kernel_rfl
 f169 := Tryz.func176.trans (congrArg some (by kernel_rfl))
 t0 := Tryz.underlying0
 a0 := Tryz.isAgg0
 z0 := Tryz.sizeOf0
 v0 := Tryz.zeroValue0
 t3 := Tryz.underlying3
 a3 := Tryz.isAgg3
 z3 := Tryz.sizeOf3
 v3 := Tryz.zeroValue3
 t9 := Tryz.underlying9
 a9 := Tryz.isAgg9
 z9 := Tryz.sizeOf9
 v9 := Tryz.zeroValue9
 t37 := Tryz.underlying26
 a37 := Tryz.isAgg26
 z37 := Tryz.sizeOf26
 v37 := Tryz.zeroValue26
 t70 := Tryz.underlying192
 a70 := Tryz.isAgg192
 z70 := Tryz.sizeOf192
 v70 := Tryz.zeroValue192
 t72 := Tryz.underlying194
 a72 := Tryz.isAgg194
 z72 := Tryz.sizeOf194
 v72 := Tryz.zeroValue194
 t127 := Tryz.underlying218
 a127 := Tryz.isAgg218
 z127 := Tryz.sizeOf218
 v127 := Tryz.zeroValue218 }
theorem Tryz.Builder_Extra_169 : Builder.Extra Tryz.prog Tryz.lays169_ren := {
 sizeBuilder := by kernel_rfl
 liesBuilder := by kernel_rfl
 t5 := Tryz.underlying5
 a5 := Tryz.isAgg5
 z5 := Tryz.sizeOf5
 v5 := Tryz.zeroValue5
 infoByte := by kernel_rfl
 cellsByte := by kernel_rfl
 sizeByte := by kernel_rfl
 neB5 := by decide }
def Tryz.lays161_ren : Go.Shelf.Ren := ⟨fun | 161 => 115 | 231 => 162 | 227 => 158 | 233 => 163 | 235 => 164 | 228 => 194 | 197 => 197 | 151 => 196 | 260 => 220 | 152 => 219 | 137 => 109 | 119 => 228 | 224 => 172 | 225 => 171 | 217 => 147 | 266 => 187 | n => n, fun | 9 => 9 | 4 => 4 | 3 => 3 | 5 => 5 | 117 => 182 | 116 => 181 | 0 => 0 | 124 => 185 | 105 => 211 | 21 => 21 | 119 => 240 | 46 => 124 | 139 => 243 | 138 => 242 | n => n, fun | 3 => 3 | 4 => 4 | n => n⟩
theorem Tryz.lays161 : Go.Proofs.Lays.n161 Tryz.prog Tryz.lays161_ren := {
 mixed := by kernel_rfl
 f119 := Tryz.func228.trans (congrArg some (by kernel_rfl))
 f137 := Tryz.func109.trans (congrArg some (by kernel_rfl))
 f151 := Tryz.func196.trans (congrArg some (by kernel_rfl))
 f152 := Tryz.func219.trans (congrArg some (by kernel_rfl))
 f161 := Tryz.func115.trans (congrArg some (by kernel_rfl))
 f197 := Tryz.func197.trans (congrArg some (by kernel_rfl))
 f217 := Tryz.func147.trans (congrArg some (by kernel_rfl))
 f224 := Tryz.func172.trans (congrArg some (by kernel_rfl))
 f225 := Tryz.func171.trans (congrArg some (by kernel_rfl))
 f227 := Tryz.func158.trans (congrArg some (by kernel_rfl))
 f228 := Tryz.func194.trans (congrArg some (by kernel_rfl))
 f231 := Tryz.func162.trans (congrArg some (by kernel_rfl))
 f233 := Tryz.func163.trans (congrArg some (by kernel_rfl))
 f235 := Tryz.func164.trans (congrArg some (by kernel_rfl))
 f260 := Tryz.func220.trans (congrArg some (by kernel_rfl))
 f266 := Tryz.func187.trans (congrArg some (by kernel_rfl))
 t0 := Tryz.underlying0
 a0 := Tryz.isAgg0
 z0 := Tryz.sizeOf0
 v0 := Tryz.zeroValue0
 t3 := Tryz.underlying3
 a3 := Tryz.isAgg3
 z3 := Tryz.sizeOf3
 v3 := Tryz.zeroValue3
 t4 := Tryz.underlying4
 a4 := Tryz.isAgg4
 z4 := Tryz.sizeOf4
 v4 := Tryz.zeroValue4
 t5 := Tryz.underlying5
 a5 := Tryz.isAgg5
 z5 := Tryz.sizeOf5
 v5 := Tryz.zeroValue5
 t9 := Tryz.underlying9
 a9 := Tryz.isAgg9
 z9 := Tryz.sizeOf9
 v9 := Tryz.zeroValue9
 t21 := Tryz.underlying21
 a21 := Tryz.isAgg21
 z21 := Tryz.sizeOf21
 v21 := Tryz.zeroValue21
 t46 := Tryz.underlying124
 a46 := Tryz.isAgg124
 z46 := Tryz.sizeOf124
 v46 := Tryz.zeroValue124
 t105 := Tryz.underlying211
 a105 := Tryz.isAgg211
 z105 := Tryz.sizeOf211
 v105 := Tryz.zeroValue211
 t116 := Tryz.underlying181
 a116 := Tryz.isAgg181
 z116 := Tryz.sizeOf181
 t117 := Tryz.underlying182
 a117 := Tryz.isAgg182
 z117 := Tryz.sizeOf182
 v117 := Tryz.zeroValue182
 t119 := Tryz.underlying240
 a119 := Tryz.isAgg240
 z119 := Tryz.sizeOf240
 t124 := Tryz.underlying185
 a124 := Tryz.isAgg185
 z124 := Tryz.sizeOf185
 v124 := Tryz.zeroValue185
 t138 := Tryz.underlying242
 a138 := Tryz.isAgg242
 z138 := Tryz.sizeOf242
 v138 := Tryz.zeroValue242
 t139 := Tryz.underlying243
 a139 := Tryz.isAgg243
 z139 := Tryz.sizeOf243
 v139 := Tryz.zeroValue243
 g3 := by kernel_rfl
 g4 := by kernel_rfl }
open Go.RowKit in
theorem Tryz.strings_TrimLeft_one (s : ByteArray) (c : UInt8) (hc : c.toNat < 128) (w : World) :
  Calls Tryz.prog 115 #[.string s, .string ⟨#[c]⟩] w fun e w' => e = .returned (.string ⟨(Lib.trimLeftB s.data.toList c).toArray⟩) ∧ w' = w := Any.strings_TrimLeft_one Tryz.lays161 s c hc w
def Tryz.lays162_ren : Go.Shelf.Ren := ⟨fun | 162 => 113 | 232 => 157 | 227 => 158 | 234 => 159 | 236 => 160 | 228 => 194 | 271 => 195 | 151 => 196 | 120 => 218 | 197 => 197 | 152 => 219 | 260 => 220 | 137 => 109 | 119 => 228 | 224 => 172 | 225 => 171 | 217 => 147 | 266 => 187 | n => n, fun | 9 => 9 | 4 => 4 | 3 => 3 | 5 => 5 | 117 => 182 | 116 => 181 | 0 => 0 | 124 => 185 | 21 => 21 | 105 => 211 | 46 => 124 | 119 => 240 | 139 => 243 | 138 => 242 | n => n, fun | 3 => 3 | 4 => 4 | n => n⟩
theorem Tryz.lays162 : Go.Proofs.Lays.n162 Tryz.prog Tryz.lays162_ren := {
 mixed := by kernel_rfl
 f119 := Tryz.func228.trans (congrArg some (by kernel_rfl))
 f120 := Tryz.func218.trans (congrArg some (by kernel_rfl))
 f137 := Tryz.func109.trans (congrArg some (by kernel_rfl))
 f151 := Tryz.func196.trans (congrArg some (by kernel_rfl))
 f152 := Tryz.func219.trans (congrArg some (by kernel_rfl))
 f162 := Tryz.func113.trans (congrArg some (by kernel_rfl))
 f197 := Tryz.func197.trans (congrArg some (by kernel_rfl))
 f217 := Tryz.func147.trans (congrArg some (by kernel_rfl))
 f224 := Tryz.func172.trans (congrArg some (by kernel_rfl))
 f225 := Tryz.func171.trans (congrArg some (by kernel_rfl))
 f227 := Tryz.func158.trans (congrArg some (by kernel_rfl))
 f228 := Tryz.func194.trans (congrArg some (by kernel_rfl))
 f232 := Tryz.func157.trans (congrArg some (by kernel_rfl))
 f234 := Tryz.func159.trans (congrArg some (by kernel_rfl))
 f236 := Tryz.func160.trans (congrArg some (by kernel_rfl))
 f260 := Tryz.func220.trans (congrArg some (by kernel_rfl))
 f266 := Tryz.func187.trans (congrArg some (by kernel_rfl))
 f271 := Tryz.func195.trans (congrArg some (by kernel_rfl))
 t0 := Tryz.underlying0
 a0 := Tryz.isAgg0
 z0 := Tryz.sizeOf0
 v0 := Tryz.zeroValue0
 t3 := Tryz.underlying3
 a3 := Tryz.isAgg3
 z3 := Tryz.sizeOf3
 v3 := Tryz.zeroValue3
 t4 := Tryz.underlying4
 a4 := Tryz.isAgg4
 z4 := Tryz.sizeOf4
 v4 := Tryz.zeroValue4
 t5 := Tryz.underlying5
 a5 := Tryz.isAgg5
 z5 := Tryz.sizeOf5
 v5 := Tryz.zeroValue5
 t9 := Tryz.underlying9
 a9 := Tryz.isAgg9
 z9 := Tryz.sizeOf9
 v9 := Tryz.zeroValue9
 t21 := Tryz.underlying21
 a21 := Tryz.isAgg21
 z21 := Tryz.sizeOf21
 v21 := Tryz.zeroValue21
 t46 := Tryz.underlying124
 a46 := Tryz.isAgg124
 z46 := Tryz.sizeOf124
 v46 := Tryz.zeroValue124
 t105 := Tryz.underlying211
 a105 := Tryz.isAgg211
 z105 := Tryz.sizeOf211
 v105 := Tryz.zeroValue211
 t116 := Tryz.underlying181
 a116 := Tryz.isAgg181
 z116 := Tryz.sizeOf181
 t117 := Tryz.underlying182
 a117 := Tryz.isAgg182
 z117 := Tryz.sizeOf182
 v117 := Tryz.zeroValue182
 t119 := Tryz.underlying240
 a119 := Tryz.isAgg240
 z119 := Tryz.sizeOf240
 t124 := Tryz.underlying185
 a124 := Tryz.isAgg185
 z124 := Tryz.sizeOf185
 v124 := Tryz.zeroValue185
 t138 := Tryz.underlying242
 a138 := Tryz.isAgg242
 z138 := Tryz.sizeOf242
 v138 := Tryz.zeroValue242
 t139 := Tryz.underlying243
 a139 := Tryz.isAgg243
 z139 := Tryz.sizeOf243
 v139 := Tryz.zeroValue243
 g3 := by kernel_rfl
 g4 := by kernel_rfl }
open Go.RowKit in
theorem Tryz.strings_TrimRight_one (s : ByteArray) (c : UInt8) (hc : c.toNat < 128) (w : World) (hs : s.size ≤ 9223372036854775807) :
  Calls Tryz.prog 113 #[.string s, .string ⟨#[c]⟩] w fun e w' => e = .returned (.string ⟨(Lib.trimRightB s.data.toList c).toArray⟩) ∧ w' = w := Any.strings_TrimRight_one Tryz.lays162 s c hc w hs
def Tryz.lays137_ren : Go.Shelf.Ren := ⟨fun | 137 => 109 | 217 => 147 | 266 => 187 | n => n, fun | 9 => 9 | 5 => 5 | 3 => 3 | n => n, fun | n => n⟩
theorem Tryz.lays137 : Go.Proofs.Lays.n137 Tryz.prog Tryz.lays137_ren := {
 mixed := by kernel_rfl
 f137 := Tryz.func109.trans (congrArg some (by kernel_rfl))
 f217 := Tryz.func147.trans (congrArg some (by kernel_rfl))
 f266 := Tryz.func187.trans (congrArg some (by kernel_rfl))
 t3 := Tryz.underlying3
 a3 := Tryz.isAgg3
 z3 := Tryz.sizeOf3
 v3 := Tryz.zeroValue3
 t5 := Tryz.underlying5
 a5 := Tryz.isAgg5
 z5 := Tryz.sizeOf5
 v5 := Tryz.zeroValue5
 t9 := Tryz.underlying9
 a9 := Tryz.isAgg9
 z9 := Tryz.sizeOf9
 v9 := Tryz.zeroValue9 }
open Go.RowKit in
theorem Tryz.strings_IndexByte (s : ByteArray) (c : Int) (w : World) :
  Calls Tryz.prog 109 #[.string s, .int .u8 c] w fun e w' => e = .returned (.int .i64 (Lib.indexByte s.data.toList c.toNat.toUInt8)) ∧ w' = w := Any.strings_IndexByte Tryz.lays137 s c w
open Go.RowKit in
theorem Tryz.Builder_String_any_f (B b : Nat) (l : List UInt8) (w : World) (h : Lib.IsBuilderF 194 5 B b (Lib.byteCells l) w) (hBw : B ≤ w.heap.size) :
  Calls Tryz.prog 176 #[.pointer (some ⟨b, 0, none⟩)] w fun e w' => e = .returned (.string ⟨l.toArray⟩) ∧ (Lib.IsBuilderF 194 5 B b (Lib.byteCells l) w' ∧ Below B w w') := Any.Builder_String_any_f Tryz.lays169 Tryz.Builder_Extra_169 B b l w h hBw
def Tryz.laysC174_ren : Go.Shelf.Ren := ⟨fun | 174 => 133 | 247 => 178 | 245 => 179 | 287 => 204 | 279 => 205 | 280 => 206 | 281 => 207 | 282 => 208 | 321 => 222 | 322 => 223 | 316 => 224 | 171 => 226 | 205 => 225 | 243 => 229 | 246 => 231 | 283 => 234 | 284 => 235 | 285 => 236 | 286 => 237 | 129 => 146 | 317 => 238 | 318 => 239 | 319 => 240 | 320 => 241 | 337 => 242 | 338 => 243 | n => n, fun | 9 => 9 | 3 => 3 | 2 => 2 | 75 => 157 | 85 => 158 | 4 => 4 | 167 => 219 | 5 => 5 | 53 => 170 | 175 => 220 | 46 => 124 | 168 => 222 | 37 => 26 | 0 => 0 | 210 => 236 | 21 => 21 | 127 => 218 | 145 => 246 | 143 => 244 | 171 => 251 | 173 => 253 | 212 => 256 | 51 => 168 | 20 => 20 | 213 => 257 | 232 => 259 | 233 => 260 | 80 => 74 | n => n, fun | 15 => 1 | 16 => 2 | 17 => 5 | 18 => 6 | 19 => 7 | n => n⟩
theorem Tryz.laysC174 : Go.Proofs.LaysC.n174 Tryz.prog Tryz.laysC174_ren := {
 mixed := by kernel_rfl
 f129 := Tryz.func146.trans (congrArg some (by kernel_rfl))
 f171 := Tryz.func226.trans (congrArg some (by kernel_rfl))
 f174 := Tryz.func133.trans (congrArg some (by kernel_rfl))
 f205 := Tryz.func225.trans (congrArg some (by kernel_rfl))
 f243 := Tryz.func229.trans (congrArg some (by kernel_rfl))
 f245 := Tryz.func179.trans (congrArg some (by kernel_rfl))
 f246 := Tryz.func231.trans (congrArg some (by kernel_rfl))
 f247 := Tryz.func178.trans (congrArg some (by kernel_rfl))
 f279 := Tryz.func205.trans (congrArg some (by kernel_rfl))
 f280 := Tryz.func206.trans (congrArg some (by kernel_rfl))
 f281 := Tryz.func207.trans (congrArg some (by kernel_rfl))
 f282 := Tryz.func208.trans (congrArg some (by kernel_rfl))
 f283 := Tryz.func234.trans (congrArg some (by kernel_rfl))
 f284 := Tryz.func235.trans (congrArg some (by kernel_rfl))
 f285 := Tryz.func236.trans (congrArg some (by kernel_rfl))
 f286 := Tryz.func237.trans (congrArg some (by kernel_rfl))
 f287 := Tryz.func204.trans (congrArg some (by kernel_rfl))
 f316 := Tryz.func224.trans (congrArg some (by kernel_rfl))
 f317 := Tryz.func238.trans (congrArg some (by kernel_rfl))
 f318 := Tryz.func239.trans (congrArg some (by kernel_rfl))
 f319 := Tryz.func240.trans (congrArg some (by kernel_rfl))
 f320 := Tryz.func241.trans (congrArg some (by kernel_rfl))
 f321 := Tryz.func222.trans (congrArg some (by kernel_rfl))
 f322 := Tryz.func223.trans (congrArg some (by kernel_rfl))
 f337 := Tryz.func242.trans (congrArg some (by kernel_rfl))
 f338 := Tryz.func243.trans (congrArg some (by kernel_rfl))
 t0 := Tryz.underlying0
 a0 := Tryz.isAgg0
 z0 := Tryz.sizeOf0
 v0 := Tryz.zeroValue0
 t2 := Tryz.underlying2
 a2 := Tryz.isAgg2
 z2 := Tryz.sizeOf2
 v2 := Tryz.zeroValue2
 t3 := Tryz.underlying3
 a3 := Tryz.isAgg3
 z3 := Tryz.sizeOf3
 v3 := Tryz.zeroValue3
 t4 := Tryz.underlying4
 a4 := Tryz.isAgg4
 z4 := Tryz.sizeOf4
 v4 := Tryz.zeroValue4
 t5 := Tryz.underlying5
 a5 := Tryz.isAgg5
 z5 := Tryz.sizeOf5
 v5 := Tryz.zeroValue5
 t9 := Tryz.underlying9
 a9 := Tryz.isAgg9
 z9 := Tryz.sizeOf9
 v9 := Tryz.zeroValue9
 t20 := Tryz.underlying20
 a20 := Tryz.isAgg20
 z20 := Tryz.sizeOf20
 v20 := Tryz.zeroValue20
 t21 := Tryz.underlying21
 a21 := Tryz.isAgg21
 z21 := Tryz.sizeOf21
 v21 := Tryz.zeroValue21
 t37 := Tryz.underlying26
 a37 := Tryz.isAgg26
 z37 := Tryz.sizeOf26
 v37 := Tryz.zeroValue26
 t46 := Tryz.underlying124
 a46 := Tryz.isAgg124
 z46 := Tryz.sizeOf124
 v46 := Tryz.zeroValue124
 t51 := Tryz.underlying168
 a51 := Tryz.isAgg168
 z51 := Tryz.sizeOf168
 v51 := Tryz.zeroValue168
 t53 := Tryz.underlying170
 a53 := Tryz.isAgg170
 z53 := Tryz.sizeOf170
 v53 := Tryz.zeroValue170
 t75 := Tryz.underlying157
 a75 := Tryz.isAgg157
 z75 := Tryz.sizeOf157
 v75 := Tryz.zeroValue157
 t85 := Tryz.underlying158
 a85 := Tryz.isAgg158
 z85 := Tryz.sizeOf158
 v85 := Tryz.zeroValue158
 t127 := Tryz.underlying218
 a127 := Tryz.isAgg218
 z127 := Tryz.sizeOf218
 v127 := Tryz.zeroValue218
 t143 := Tryz.underlying244
 a143 := Tryz.isAgg244
 z143 := Tryz.sizeOf244
 v143 := Tryz.zeroValue244
 t145 := Tryz.underlying246
 a145 := Tryz.isAgg246
 z145 := Tryz.sizeOf246
 v145 := Tryz.zeroValue246
 t167 := Tryz.underlying219
 a167 := Tryz.isAgg219
 z167 := Tryz.sizeOf219
 v167 := Tryz.zeroValue219
 t168 := Tryz.underlying222
 a168 := Tryz.isAgg222
 z168 := Tryz.sizeOf222
 v168 := Tryz.zeroValue222
 t171 := Tryz.underlying251
 a171 := Tryz.isAgg251
 z171 := Tryz.sizeOf251
 v171 := Tryz.zeroValue251
 t173 := Tryz.underlying253
 a173 := Tryz.isAgg253
 z173 := Tryz.sizeOf253
 v173 := Tryz.zeroValue253
 t175 := Tryz.underlying220
 a175 := Tryz.isAgg220
 z175 := Tryz.sizeOf220
 v175 := Tryz.zeroValue220
 t210 := Tryz.underlying236
 a210 := Tryz.isAgg236
 z210 := Tryz.sizeOf236
 v210 := Tryz.zeroValue236
 t212 := Tryz.underlying256
 a212 := Tryz.isAgg256
 z212 := Tryz.sizeOf256
 v212 := Tryz.zeroValue256
 t213 := Tryz.underlying257
 a213 := Tryz.isAgg257
 z213 := Tryz.sizeOf257
 t232 := Tryz.underlying259
 a232 := Tryz.isAgg259
 z232 := Tryz.sizeOf259
 v232 := Tryz.zeroValue259
 t233 := Tryz.underlying260
 a233 := Tryz.isAgg260
 z233 := Tryz.sizeOf260
 v233 := Tryz.zeroValue260
 g15 := by kernel_rfl
 g16 := by kernel_rfl
 g17 := by kernel_rfl
 g18 := by kernel_rfl
 g19 := by kernel_rfl
 t80 := Tryz.underlying74
 a80 := Tryz.isAgg74
 z80 := Tryz.sizeOf74
 v80 := Tryz.zeroValue74
 i0 := by kernel_rfl
 i2 := by kernel_rfl
 i3 := by kernel_rfl
 i4 := by kernel_rfl
 i5 := by kernel_rfl
 i9 := by kernel_rfl
 i20 := by kernel_rfl
 i21 := by kernel_rfl
 i37 := by kernel_rfl
 i46 := by kernel_rfl
 i51 := by kernel_rfl
 i53 := by kernel_rfl
 i75 := by kernel_rfl
 i80 := by kernel_rfl
 i85 := by kernel_rfl
 i127 := by kernel_rfl
 i143 := by kernel_rfl
 i145 := by kernel_rfl
 i167 := by kernel_rfl
 i168 := by kernel_rfl
 i171 := by kernel_rfl
 i173 := by kernel_rfl
 i175 := by kernel_rfl
 i210 := by kernel_rfl
 i212 := by kernel_rfl
 i232 := by kernel_rfl
 i233 := by kernel_rfl
 m15 := by kernel_rfl
 m16 := by kernel_rfl
 m17 := by kernel_rfl
 m18 := by kernel_rfl
 m19 := by kernel_rfl
 c0 := by kernel_rfl
 c2 := by kernel_rfl
 c3 := by kernel_rfl
 c4 := by kernel_rfl
 c5 := by kernel_rfl
 c9 := by kernel_rfl
 c20 := by kernel_rfl
 c21 := by kernel_rfl
 c37 := by kernel_rfl
 c46 := by kernel_rfl
 c51 := by kernel_rfl
 c53 := by kernel_rfl
 c75 := by kernel_rfl
 c80 := by kernel_rfl
 c85 := by kernel_rfl
 c127 := by kernel_rfl
 c143 := by kernel_rfl
 c145 := by kernel_rfl
 c167 := by kernel_rfl
 c168 := by kernel_rfl
 c171 := by kernel_rfl
 c173 := by kernel_rfl
 c175 := by kernel_rfl
 c210 := by kernel_rfl
 c212 := by kernel_rfl
 c213 := by kernel_rfl
 c232 := by kernel_rfl
 c233 := by kernel_rfl }
open Go.RowKit in
theorem Tryz.strconv_ParseInt_10_at64_ok (s : ByteArray) (hmax : s.size ≤ 9223372036854775806) (v : Int) (h : Lib.parseIntB 64 s.data.toList = .ok v) (w : World) :
  Calls Tryz.prog 133 #[.string s, .int .i64 10, .int .i64 64] w fun e w' => e = .returned (.tuple #[.int .i64 v, .nilIface]) ∧ (w' = w ∨ ∃ t, w' = Lib.bytesWorld w 5 t) := Any.strconv_ParseInt_10_at64_ok Tryz.laysC174 s hmax v h w
open Go.RowKit in
theorem Tryz.strconv_ParseInt_10_at64_syntax (s : ByteArray) (hlim : s.size ≤ 281474976710656) (h : Lib.parseIntB 64 s.data.toList = synR) (ev : Value) (w : World) (hv : w.cell? ⟨1, 0, none⟩ = some ev) (hev : ev = .nilIface ∨ ∃ te pe, ev = .iface te pe) :
  Calls Tryz.prog 133 #[.string s, .int .i64 10, .int .i64 64] w fun e w' => ∃ N, e = .returned (.tuple #[.int .i64 (0), .iface 222 (.pointer (some ⟨N, 0, none⟩))]) ∧ w.heap.size ≤ N ∧ w'.heap[N]? = some (.cells #[.string ⟨#[80, 97, 114, 115, 101, 73, 110, 116]⟩, .string s, ev] 236 (0, 0)) ∧ Below w.heap.size w w' := Any.strconv_ParseInt_10_at64_syntax Tryz.laysC174 s hlim h ev w hv hev
open Go.RowKit in
theorem Tryz.strconv_ParseInt_10_at64_range (s : ByteArray) (hlim : s.size ≤ 281474976710656) (h : Lib.parseIntB 64 s.data.toList = .range) (ev : Value) (w : World) (hv : w.cell? ⟨2, 0, none⟩ = some ev) (hev : ev = .nilIface ∨ ∃ te pe, ev = .iface te pe) :
  Calls Tryz.prog 133 #[.string s, .int .i64 10, .int .i64 64] w fun e w' => ∃ N, e = .returned (.tuple #[.int .i64 (Lib.intSat 64 s.data.toList), .iface 222 (.pointer (some ⟨N, 0, none⟩))]) ∧ w.heap.size ≤ N ∧ w'.heap[N]? = some (.cells #[.string ⟨#[80, 97, 114, 115, 101, 73, 110, 116]⟩, .string s, ev] 236 (0, 0)) ∧ Below w.heap.size w w' := Any.strconv_ParseInt_10_at64_range Tryz.laysC174 s hlim h ev w hv hev
def Tryz.lays219_ren : Go.Shelf.Ren := ⟨fun | 219 => 126 | 217 => 147 | 225 => 171 | 224 => 172 | 267 => 173 | 266 => 187 | 314 => 200 | n => n, fun | 9 => 9 | 3 => 3 | 4 => 4 | 5 => 5 | 46 => 124 | 146 => 215 | 51 => 168 | n => n, fun | 1 => 0 | n => n⟩
theorem Tryz.lays219 : Go.Proofs.Lays.n219 Tryz.prog Tryz.lays219_ren := {
 mixed := by kernel_rfl
 f217 := Tryz.func147.trans (congrArg some (by kernel_rfl))
 f219 := Tryz.func126.trans (congrArg some (by kernel_rfl))
 f224 := Tryz.func172.trans (congrArg some (by kernel_rfl))
 f225 := Tryz.func171.trans (congrArg some (by kernel_rfl))
 f266 := Tryz.func187.trans (congrArg some (by kernel_rfl))
 f267 := Tryz.func173.trans (congrArg some (by kernel_rfl))
 f314 := Tryz.func200.trans (congrArg some (by kernel_rfl))
 t3 := Tryz.underlying3
 a3 := Tryz.isAgg3
 z3 := Tryz.sizeOf3
 v3 := Tryz.zeroValue3
 t4 := Tryz.underlying4
 a4 := Tryz.isAgg4
 z4 := Tryz.sizeOf4
 v4 := Tryz.zeroValue4
 t5 := Tryz.underlying5
 a5 := Tryz.isAgg5
 z5 := Tryz.sizeOf5
 v5 := Tryz.zeroValue5
 t9 := Tryz.underlying9
 a9 := Tryz.isAgg9
 z9 := Tryz.sizeOf9
 v9 := Tryz.zeroValue9
 t46 := Tryz.underlying124
 a46 := Tryz.isAgg124
 z46 := Tryz.sizeOf124
 v46 := Tryz.zeroValue124
 t51 := Tryz.underlying168
 a51 := Tryz.isAgg168
 z51 := Tryz.sizeOf168
 v51 := Tryz.zeroValue168
 t146 := Tryz.underlying215
 a146 := Tryz.isAgg215
 z146 := Tryz.sizeOf215
 v146 := Tryz.zeroValue215
 g1 := by kernel_rfl }
open Go.RowKit Go.Lib in
theorem Tryz.stringslite_Index_one (s : ByteArray) (c : UInt8) (w : World) :
  Calls Tryz.prog 126 #[.string s, .string ⟨#[c]⟩] w fun e w' => e = .returned (.int .i64 (Lib.indexByte s.data.toList c)) ∧ w' = w := Any.stringslite_Index_one Tryz.lays219 s c w
def Tryz.lays143_ren : Go.Shelf.Ren := ⟨fun | 143 => 148 | 219 => 126 | 217 => 147 | 225 => 171 | 224 => 172 | 267 => 173 | 266 => 187 | 314 => 200 | n => n, fun | 9 => 9 | 3 => 3 | 4 => 4 | 5 => 5 | 46 => 124 | 146 => 215 | 51 => 168 | n => n, fun | 1 => 0 | n => n⟩
theorem Tryz.lays143 : Go.Proofs.Lays.n143 Tryz.prog Tryz.lays143_ren := {
 mixed := by kernel_rfl
 f143 := Tryz.func148.trans (congrArg some (by kernel_rfl))
 f217 := Tryz.func147.trans (congrArg some (by kernel_rfl))
 f219 := Tryz.func126.trans (congrArg some (by kernel_rfl))
 f224 := Tryz.func172.trans (congrArg some (by kernel_rfl))
 f225 := Tryz.func171.trans (congrArg some (by kernel_rfl))
 f266 := Tryz.func187.trans (congrArg some (by kernel_rfl))
 f267 := Tryz.func173.trans (congrArg some (by kernel_rfl))
 f314 := Tryz.func200.trans (congrArg some (by kernel_rfl))
 t3 := Tryz.underlying3
 a3 := Tryz.isAgg3
 z3 := Tryz.sizeOf3
 v3 := Tryz.zeroValue3
 t4 := Tryz.underlying4
 a4 := Tryz.isAgg4
 z4 := Tryz.sizeOf4
 v4 := Tryz.zeroValue4
 t5 := Tryz.underlying5
 a5 := Tryz.isAgg5
 z5 := Tryz.sizeOf5
 v5 := Tryz.zeroValue5
 t9 := Tryz.underlying9
 a9 := Tryz.isAgg9
 z9 := Tryz.sizeOf9
 v9 := Tryz.zeroValue9
 t46 := Tryz.underlying124
 a46 := Tryz.isAgg124
 z46 := Tryz.sizeOf124
 v46 := Tryz.zeroValue124
 t51 := Tryz.underlying168
 a51 := Tryz.isAgg168
 z51 := Tryz.sizeOf168
 v51 := Tryz.zeroValue168
 t146 := Tryz.underlying215
 a146 := Tryz.isAgg215
 z146 := Tryz.sizeOf215
 v146 := Tryz.zeroValue215
 g1 := by kernel_rfl }
open Go.RowKit Go.Lib in
theorem Tryz.strings_Index_one (s : ByteArray) (c : UInt8) (w : World) :
  Calls Tryz.prog 148 #[.string s, .string ⟨#[c]⟩] w fun e w' => e = .returned (.int .i64 (Lib.indexByte s.data.toList c)) ∧ w' = w := Any.strings_Index_one Tryz.lays143 s c w
open Go.RowKit Go.Lib in
theorem Tryz.strings_Index (s sub : ByteArray) (m : Int) (w : World) (hs : s.size < 4294967281) (hm : w.cell? ⟨0, 0, none⟩ = some (.int .i64 m)) :
  Calls Tryz.prog 148 #[.string s, .string sub] w fun e w' => e = .returned (.int .i64 (Lib.index s.data.toList sub.data.toList)) ∧ w' = w := Any.strings_Index Tryz.lays143 s sub m w hs hm
def Tryz.lays144_ren : Go.Shelf.Ren := ⟨fun | 144 => 170 | 143 => 148 | 219 => 126 | 217 => 147 | 225 => 171 | 224 => 172 | 267 => 173 | 266 => 187 | 314 => 200 | n => n, fun | 9 => 9 | 4 => 4 | 3 => 3 | 5 => 5 | 46 => 124 | 146 => 215 | 51 => 168 | n => n, fun | 1 => 0 | n => n⟩
theorem Tryz.lays144 : Go.Proofs.Lays.n144 Tryz.prog Tryz.lays144_ren := {
 mixed := by kernel_rfl
 f143 := Tryz.func148.trans (congrArg some (by kernel_rfl))
 f144 := Tryz.func170.trans (congrArg some (by kernel_rfl))
 f217 := Tryz.func147.trans (congrArg some (by kernel_rfl))
 f219 := Tryz.func126.trans (congrArg some (by kernel_rfl))
 f224 := Tryz.func172.trans (congrArg some (by kernel_rfl))
 f225 := Tryz.func171.trans (congrArg some (by kernel_rfl))
 f266 := Tryz.func187.trans (congrArg some (by kernel_rfl))
 f267 := Tryz.func173.trans (congrArg some (by kernel_rfl))
 f314 := Tryz.func200.trans (congrArg some (by kernel_rfl))
 t3 := Tryz.underlying3
 a3 := Tryz.isAgg3
 z3 := Tryz.sizeOf3
 v3 := Tryz.zeroValue3
 t4 := Tryz.underlying4
 a4 := Tryz.isAgg4
 z4 := Tryz.sizeOf4
 v4 := Tryz.zeroValue4
 t5 := Tryz.underlying5
 a5 := Tryz.isAgg5
 z5 := Tryz.sizeOf5
 v5 := Tryz.zeroValue5
 t9 := Tryz.underlying9
 a9 := Tryz.isAgg9
 z9 := Tryz.sizeOf9
 v9 := Tryz.zeroValue9
 t46 := Tryz.underlying124
 a46 := Tryz.isAgg124
 z46 := Tryz.sizeOf124
 v46 := Tryz.zeroValue124
 t51 := Tryz.underlying168
 a51 := Tryz.isAgg168
 z51 := Tryz.sizeOf168
 v51 := Tryz.zeroValue168
 t146 := Tryz.underlying215
 a146 := Tryz.isAgg215
 z146 := Tryz.sizeOf215
 v146 := Tryz.zeroValue215
 g1 := by kernel_rfl }
open Go.RowKit Go.Lib in
theorem Tryz.strings_Contains_one (s : ByteArray) (c : UInt8) (w : World) :
  Calls Tryz.prog 170 #[.string s, .string ⟨#[c]⟩] w fun e w' => e = .returned (.bool (decide (0 ≤ Lib.indexByte s.data.toList c))) ∧ w' = w := Any.strings_Contains_one Tryz.lays144 s c w
open Go.RowKit Go.Lib in
theorem Tryz.strings_Contains (s sub : ByteArray) (m : Int) (w : World) (hs : s.size < 4294967281) (hm : w.cell? ⟨0, 0, none⟩ = some (.int .i64 m)) :
  Calls Tryz.prog 170 #[.string s, .string sub] w fun e w' => e = .returned (.bool (Lib.contains s.data.toList sub.data.toList)) ∧ w' = w := Any.strings_Contains Tryz.lays144 s sub m w hs hm
def Tryz.lays138_ren : Go.Shelf.Ren := ⟨fun | 138 => 175 | 195 => 201 | 218 => 202 | 143 => 148 | 219 => 126 | 217 => 147 | 225 => 171 | 224 => 172 | 267 => 173 | 266 => 187 | 314 => 200 | n => n, fun | 9 => 9 | 3 => 3 | 4 => 4 | 5 => 5 | 0 => 0 | 46 => 124 | 146 => 215 | 51 => 168 | n => n, fun | 1 => 0 | n => n⟩
theorem Tryz.lays138 : Go.Proofs.Lays.n138 Tryz.prog Tryz.lays138_ren := {
 mixed := by kernel_rfl
 f138 := Tryz.func175.trans (congrArg some (by kernel_rfl))
 f143 := Tryz.func148.trans (congrArg some (by kernel_rfl))
 f195 := Tryz.func201.trans (congrArg some (by kernel_rfl))
 f217 := Tryz.func147.trans (congrArg some (by kernel_rfl))
 f218 := Tryz.func202.trans (congrArg some (by kernel_rfl))
 f219 := Tryz.func126.trans (congrArg some (by kernel_rfl))
 f224 := Tryz.func172.trans (congrArg some (by kernel_rfl))
 f225 := Tryz.func171.trans (congrArg some (by kernel_rfl))
 f266 := Tryz.func187.trans (congrArg some (by kernel_rfl))
 f267 := Tryz.func173.trans (congrArg some (by kernel_rfl))
 f314 := Tryz.func200.trans (congrArg some (by kernel_rfl))
 t0 := Tryz.underlying0
 a0 := Tryz.isAgg0
 z0 := Tryz.sizeOf0
 v0 := Tryz.zeroValue0
 t3 := Tryz.underlying3
 a3 := Tryz.isAgg3
 z3 := Tryz.sizeOf3
 v3 := Tryz.zeroValue3
 t4 := Tryz.underlying4
 a4 := Tryz.isAgg4
 z4 := Tryz.sizeOf4
 v4 := Tryz.zeroValue4
 t5 := Tryz.underlying5
 a5 := Tryz.isAgg5
 z5 := Tryz.sizeOf5
 v5 := Tryz.zeroValue5
 t9 := Tryz.underlying9
 a9 := Tryz.isAgg9
 z9 := Tryz.sizeOf9
 v9 := Tryz.zeroValue9
 t46 := Tryz.underlying124
 a46 := Tryz.isAgg124
 z46 := Tryz.sizeOf124
 v46 := Tryz.zeroValue124
 t51 := Tryz.underlying168
 a51 := Tryz.isAgg168
 z51 := Tryz.sizeOf168
 v51 := Tryz.zeroValue168
 t146 := Tryz.underlying215
 a146 := Tryz.isAgg215
 z146 := Tryz.sizeOf215
 v146 := Tryz.zeroValue215
 g1 := by kernel_rfl }
open Go.RowKit Go.Lib in
theorem Tryz.strings_Count_one (s : ByteArray) (c : UInt8) (w : World) :
  Calls Tryz.prog 175 #[.string s, .string ⟨#[c]⟩] w fun e w' => e = .returned (.int .i64 (Lib.countByte s.data.toList c)) ∧ w' = w := Any.strings_Count_one Tryz.lays138 s c w
def Tryz.lays100_ren : Go.Shelf.Ren := ⟨fun | 100 => 151 | 207 => 188 | n => n, fun | 9 => 9 | 4 => 4 | 3 => 3 | n => n, fun | n => n⟩
theorem Tryz.lays100 : Go.Proofs.Lays.n100 Tryz.prog Tryz.lays100_ren := {
 mixed := by kernel_rfl
 f100 := Tryz.func151.trans (congrArg some (by kernel_rfl))
 f207 := Tryz.func188.trans (congrArg some (by kernel_rfl))
 t3 := Tryz.underlying3
 a3 := Tryz.isAgg3
 z3 := Tryz.sizeOf3
 v3 := Tryz.zeroValue3
 t4 := Tryz.underlying4
 a4 := Tryz.isAgg4
 z4 := Tryz.sizeOf4
 v4 := Tryz.zeroValue4
 t9 := Tryz.underlying9
 a9 := Tryz.isAgg9
 z9 := Tryz.sizeOf9
 v9 := Tryz.zeroValue9 }
open Go.RowKit Go.Lib in
theorem Tryz.strings_HasSuffix (s p : ByteArray) (w : World) (hs : s.size ≤ 9223372036854775807) :
  Calls Tryz.prog 151 #[.string s, .string p] w fun e w' => e = .returned (.bool (Lib.hasSuffix s.data.toList p.data.toList)) ∧ w' = w := Any.strings_HasSuffix Tryz.lays100 s p w hs
def Tryz.lays221_ren : Go.Shelf.Ren := ⟨fun | 221 => 127 | 268 => 174 | 138 => 175 | 143 => 148 | 195 => 201 | 197 => 197 | 218 => 202 | 219 => 126 | 260 => 220 | 217 => 147 | 225 => 171 | 224 => 172 | 267 => 173 | 266 => 187 | 314 => 200 | n => n, fun | 9 => 9 | 3 => 3 | 31 => 27 | 4 => 4 | 0 => 0 | 105 => 211 | 21 => 21 | 5 => 5 | 46 => 124 | 119 => 240 | 139 => 243 | 138 => 242 | 146 => 215 | 51 => 168 | n => n, fun | 1 => 0 | 3 => 3 | 4 => 4 | n => n⟩
theorem Tryz.lays221 : Go.Proofs.Lays.n221 Tryz.prog Tryz.lays221_ren := {
 mixed := by kernel_rfl
 f138 := Tryz.func175.trans (congrArg some (by kernel_rfl))
 f143 := Tryz.func148.trans (congrArg some (by kernel_rfl))
 f195 := Tryz.func201.trans (congrArg some (by kernel_rfl))
 f197 := Tryz.func197.trans (congrArg some (by kernel_rfl))
 f217 := Tryz.func147.trans (congrArg some (by kernel_rfl))
 f218 := Tryz.func202.trans (congrArg some (by kernel_rfl))
 f219 := Tryz.func126.trans (congrArg some (by kernel_rfl))
 f221 := Tryz.func127.trans (congrArg some (by kernel_rfl))
 f224 := Tryz.func172.trans (congrArg some (by kernel_rfl))
 f225 := Tryz.func171.trans (congrArg some (by kernel_rfl))
 f260 := Tryz.func220.trans (congrArg some (by kernel_rfl))
 f266 := Tryz.func187.trans (congrArg some (by kernel_rfl))
 f267 := Tryz.func173.trans (congrArg some (by kernel_rfl))
 f268 := Tryz.func174.trans (congrArg some (by kernel_rfl))
 f314 := Tryz.func200.trans (congrArg some (by kernel_rfl))
 t0 := Tryz.underlying0
 a0 := Tryz.isAgg0
 z0 := Tryz.sizeOf0
 v0 := Tryz.zeroValue0
 t3 := Tryz.underlying3
 a3 := Tryz.isAgg3
 z3 := Tryz.sizeOf3
 v3 := Tryz.zeroValue3
 t4 := Tryz.underlying4
 a4 := Tryz.isAgg4
 z4 := Tryz.sizeOf4
 v4 := Tryz.zeroValue4
 t5 := Tryz.underlying5
 a5 := Tryz.isAgg5
 z5 := Tryz.sizeOf5
 v5 := Tryz.zeroValue5
 t9 := Tryz.underlying9
 a9 := Tryz.isAgg9
 z9 := Tryz.sizeOf9
 v9 := Tryz.zeroValue9
 t21 := Tryz.underlying21
 a21 := Tryz.isAgg21
 z21 := Tryz.sizeOf21
 v21 := Tryz.zeroValue21
 t31 := Tryz.underlying27
 a31 := Tryz.isAgg27
 z31 := Tryz.sizeOf27
 v31 := Tryz.zeroValue27
 t46 := Tryz.underlying124
 a46 := Tryz.isAgg124
 z46 := Tryz.sizeOf124
 v46 := Tryz.zeroValue124
 t51 := Tryz.underlying168
 a51 := Tryz.isAgg168
 z51 := Tryz.sizeOf168
 v51 := Tryz.zeroValue168
 t105 := Tryz.underlying211
 a105 := Tryz.isAgg211
 z105 := Tryz.sizeOf211
 v105 := Tryz.zeroValue211
 t119 := Tryz.underlying240
 a119 := Tryz.isAgg240
 z119 := Tryz.sizeOf240
 t138 := Tryz.underlying242
 a138 := Tryz.isAgg242
 z138 := Tryz.sizeOf242
 v138 := Tryz.zeroValue242
 t139 := Tryz.underlying243
 a139 := Tryz.isAgg243
 z139 := Tryz.sizeOf243
 v139 := Tryz.zeroValue243
 t146 := Tryz.underlying215
 a146 := Tryz.isAgg215
 z146 := Tryz.sizeOf215
 v146 := Tryz.zeroValue215
 g1 := by kernel_rfl
 g3 := by kernel_rfl
 g4 := by kernel_rfl }
end Go.Proofs
