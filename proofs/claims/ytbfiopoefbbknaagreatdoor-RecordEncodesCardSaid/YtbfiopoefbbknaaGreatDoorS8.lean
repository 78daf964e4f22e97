/-
  The texts that the claim wants, one behind the other: part 8.
-/
import Derived.Test.YtbfiopoefbbknaaGreatDoorS7
import Derived.Shelf.Strings.Builder1
import Derived.Shelf.Strings.Builder2
import Derived.Shelf.Strings.OnBuilder
import Derived.Shelf.Strings.Trim
import Derived.Shelf.Small.Utf8
import Derived.Shelf.Small.Strs
import Derived.Shelf.Strings.BuilderF
import Derived.Shelf.Strings.BuilderK
import Derived.Shelf.Strings.Builder2Cap
import Derived.Shelf.Strconv.Atoi
import Derived.Shelf.Strconv.Itoa0
import Derived.Shelf.Strconv.Itoa1
import Derived.Shelf.LaysM
import Derived.Shelf.Strconv.Itoa2
import Derived.Shelf.Strconv.Itoa3
import Derived.Shelf.Strconv.Itoa4
import Derived.Shelf.Strconv.AtoiErrFast
import Derived.Shelf.Strconv.ParseIntEmpty
import Derived.Shelf.Strconv.AtoiFail
import Derived.Shelf.Strconv.Clone
import Derived.Shelf.Strconv.SyntaxError
import Derived.Shelf.LaysC
import Derived.Shelf.Strconv.ToError
import Derived.Shelf.Strconv.Lower
import Derived.Shelf.Strconv.ParseUint10
import Derived.Shelf.Strconv.ParseUint10Empty
import Derived.Shelf.Strconv.ParseUint10Any
import Derived.Shelf.Strconv.ParseInt10
import Derived.Shelf.Strconv.AtoiLong
import Derived.Shelf.Strconv.AtoiInnerAll
import Derived.Shelf.Strconv.RangeError
import Derived.Shelf.Strconv.ToErrorRange
import Derived.Shelf.Strconv.AtoiAll
import Derived.Shelf.Strconv.ParseUintEmpty
import Derived.Shelf.Strconv.ParseUint10b64
import Derived.Shelf.Strconv.ParseUint10b32
import Derived.Shelf.Strconv.ParseUint10b16
import Derived.Shelf.Strconv.ParseUint10b8
import Derived.Shelf.Strconv.ParseUint10At
import Derived.Shelf.Strconv.ParseInt10At64
import Derived.Shelf.Strconv.ParseInt10At32
import Derived.Shelf.Strconv.ParseInt10At16
import Derived.Shelf.Strconv.ParseInt10At8
import Derived.Shelf.Strconv.ParseInt10All
import Derived.Shelf.Strconv.ParseIntPublic10
import Derived.Shelf.Strconv.ErrVarParseInt
import Derived.Shelf.Strings.Search1
import Derived.Shelf.Strings.Search2
import Derived.Shelf.Strings.Search3
import Derived.Shelf.Strings.Cut
import Derived.Shelf.Strings.Count
import Derived.Shelf.Strings.Shaped
import Derived.Shelf.Strings.LastIndex
import Derived.Shelf.Strings.LastIndexAll
import Derived.Shelf.Strings.Prefix
import Derived.Shelf.Strings.Split
import Derived.Shelf.Strings.Runes
import Derived.Shelf.Strings.AsciiSet
import Derived.Shelf.Bits.Mul64
import Derived.Shelf.Strings.Repeat
import Derived.Shelf.Unicode.DecodeSlow
import Derived.Test.YtbfiopoefbbknaaGreatDoorProg
import Derived.KernelRfl
set_option linter.unusedSimpArgs false
set_option linter.unusedVariables false
namespace Go.Proofs
abbrev synR := Lib.atoiAll []
open Go.Shelf
def Tryz.lays169_ren : Go.Shelf.Ren := ⟨fun | 169 => 80 | n => n, fun | 70 => 117 | 9 => 9 | 0 => 0 | 72 => 120 | 37 => 118 | 127 => 144 | 3 => 3 | 5 => 5 | n => n, fun | n => n⟩
theorem Tryz.lays169 : Go.Proofs.Lays.n169 Tryz.prog Tryz.lays169_ren := {
 mixed := by kernel_rfl
 f169 := Tryz.func80.trans (congrArg some (by kernel_rfl))
 t0 := Tryz.underlying0
 a0 := Tryz.isAgg0
 z0 := Tryz.sizeOf0
 v0 := Tryz.zeroValue0
 t3 := Tryz.underlying3
 a3 := Tryz.isAgg3
 z3 := Tryz.sizeOf3
 v3 := Tryz.zeroValue3
 t9 := Tryz.underlying9
 a9 := Tryz.isAgg9
 z9 := Tryz.sizeOf9
 v9 := Tryz.zeroValue9
 t37 := Tryz.underlying118
 a37 := Tryz.isAgg118
 z37 := Tryz.sizeOf118
 v37 := Tryz.zeroValue118
 t70 := Tryz.underlying117
 a70 := Tryz.isAgg117
 z70 := Tryz.sizeOf117
 v70 := Tryz.zeroValue117
 t72 := Tryz.underlying120
 a72 := Tryz.isAgg120
 z72 := Tryz.sizeOf120
 v72 := Tryz.zeroValue120
 t127 := Tryz.underlying144
 a127 := Tryz.isAgg144
 z127 := Tryz.sizeOf144
 v127 := Tryz.zeroValue144 }
theorem Tryz.Builder_Extra_169 : Builder.Extra Tryz.prog Tryz.lays169_ren := {
 sizeBuilder := by kernel_rfl
 liesBuilder := by kernel_rfl
 t5 := Tryz.underlying5
 a5 := Tryz.isAgg5
 z5 := Tryz.sizeOf5
 v5 := Tryz.zeroValue5
 infoByte := by kernel_rfl
 cellsByte := by kernel_rfl
 sizeByte := by kernel_rfl
 neB5 := by decide }
def Tryz.lays161_ren : Go.Shelf.Ren := ⟨fun | 161 => 86 | 231 => 131 | 227 => 126 | 233 => 132 | 235 => 133 | 228 => 171 | 197 => 176 | 151 => 173 | 260 => 205 | 152 => 204 | 137 => 94 | 119 => 220 | 224 => 183 | 225 => 182 | 217 => 140 | 266 => 181 | n => n, fun | 9 => 9 | 4 => 4 | 3 => 3 | 5 => 5 | 117 => 148 | 116 => 147 | 0 => 0 | 124 => 151 | 105 => 180 | 21 => 21 | 119 => 220 | 46 => 135 | 139 => 223 | 138 => 222 | n => n, fun | 3 => 4 | 4 => 5 | n => n⟩
theorem Tryz.lays161 : Go.Proofs.Lays.n161 Tryz.prog Tryz.lays161_ren := {
 mixed := by kernel_rfl
 f119 := Tryz.func220.trans (congrArg some (by kernel_rfl))
 f137 := Tryz.func94.trans (congrArg some (by kernel_rfl))
 f151 := Tryz.func173.trans (congrArg some (by kernel_rfl))
 f152 := Tryz.func204.trans (congrArg some (by kernel_rfl))
 f161 := Tryz.func86.trans (congrArg some (by kernel_rfl))
 f197 := Tryz.func176.trans (congrArg some (by kernel_rfl))
 f217 := Tryz.func140.trans (congrArg some (by kernel_rfl))
 f224 := Tryz.func183.trans (congrArg some (by kernel_rfl))
 f225 := Tryz.func182.trans (congrArg some (by kernel_rfl))
 f227 := Tryz.func126.trans (congrArg some (by kernel_rfl))
 f228 := Tryz.func171.trans (congrArg some (by kernel_rfl))
 f231 := Tryz.func131.trans (congrArg some (by kernel_rfl))
 f233 := Tryz.func132.trans (congrArg some (by kernel_rfl))
 f235 := Tryz.func133.trans (congrArg some (by kernel_rfl))
 f260 := Tryz.func205.trans (congrArg some (by kernel_rfl))
 f266 := Tryz.func181.trans (congrArg some (by kernel_rfl))
 t0 := Tryz.underlying0
 a0 := Tryz.isAgg0
 z0 := Tryz.sizeOf0
 v0 := Tryz.zeroValue0
 t3 := Tryz.underlying3
 a3 := Tryz.isAgg3
 z3 := Tryz.sizeOf3
 v3 := Tryz.zeroValue3
 t4 := Tryz.underlying4
 a4 := Tryz.isAgg4
 z4 := Tryz.sizeOf4
 v4 := Tryz.zeroValue4
 t5 := Tryz.underlying5
 a5 := Tryz.isAgg5
 z5 := Tryz.sizeOf5
 v5 := Tryz.zeroValue5
 t9 := Tryz.underlying9
 a9 := Tryz.isAgg9
 z9 := Tryz.sizeOf9
 v9 := Tryz.zeroValue9
 t21 := Tryz.underlying21
 a21 := Tryz.isAgg21
 z21 := Tryz.sizeOf21
 v21 := Tryz.zeroValue21
 t46 := Tryz.underlying135
 a46 := Tryz.isAgg135
 z46 := Tryz.sizeOf135
 v46 := Tryz.zeroValue135
 t105 := Tryz.underlying180
 a105 := Tryz.isAgg180
 z105 := Tryz.sizeOf180
 v105 := Tryz.zeroValue180
 t116 := Tryz.underlying147
 a116 := Tryz.isAgg147
 z116 := Tryz.sizeOf147
 t117 := Tryz.underlying148
 a117 := Tryz.isAgg148
 z117 := Tryz.sizeOf148
 v117 := Tryz.zeroValue148
 t119 := Tryz.underlying220
 a119 := Tryz.isAgg220
 z119 := Tryz.sizeOf220
 t124 := Tryz.underlying151
 a124 := Tryz.isAgg151
 z124 := Tryz.sizeOf151
 v124 := Tryz.zeroValue151
 t138 := Tryz.underlying222
 a138 := Tryz.isAgg222
 z138 := Tryz.sizeOf222
 v138 := Tryz.zeroValue222
 t139 := Tryz.underlying223
 a139 := Tryz.isAgg223
 z139 := Tryz.sizeOf223
 v139 := Tryz.zeroValue223
 g3 := by kernel_rfl
 g4 := by kernel_rfl }
open Go.RowKit in
theorem Tryz.strings_TrimLeft_one (s : ByteArray) (c : UInt8) (hc : c.toNat < 128) (w : World) :
  Calls Tryz.prog 86 #[.string s, .string ⟨#[c]⟩] w fun e w' => e = .returned (.string ⟨(Lib.trimLeftB s.data.toList c).toArray⟩) ∧ w' = w := Any.strings_TrimLeft_one Tryz.lays161 s c hc w
def Tryz.lays162_ren : Go.Shelf.Ren := ⟨fun | 162 => 84 | 232 => 125 | 227 => 126 | 234 => 127 | 236 => 128 | 228 => 171 | 271 => 172 | 151 => 173 | 120 => 203 | 197 => 176 | 152 => 204 | 260 => 205 | 137 => 94 | 119 => 220 | 224 => 183 | 225 => 182 | 217 => 140 | 266 => 181 | n => n, fun | 9 => 9 | 4 => 4 | 3 => 3 | 5 => 5 | 117 => 148 | 116 => 147 | 0 => 0 | 124 => 151 | 21 => 21 | 105 => 180 | 46 => 135 | 119 => 220 | 139 => 223 | 138 => 222 | n => n, fun | 3 => 4 | 4 => 5 | n => n⟩
theorem Tryz.lays162 : Go.Proofs.Lays.n162 Tryz.prog Tryz.lays162_ren := {
 mixed := by kernel_rfl
 f119 := Tryz.func220.trans (congrArg some (by kernel_rfl))
 f120 := Tryz.func203.trans (congrArg some (by kernel_rfl))
 f137 := Tryz.func94.trans (congrArg some (by kernel_rfl))
 f151 := Tryz.func173.trans (congrArg some (by kernel_rfl))
 f152 := Tryz.func204.trans (congrArg some (by kernel_rfl))
 f162 := Tryz.func84.trans (congrArg some (by kernel_rfl))
 f197 := Tryz.func176.trans (congrArg some (by kernel_rfl))
 f217 := Tryz.func140.trans (congrArg some (by kernel_rfl))
 f224 := Tryz.func183.trans (congrArg some (by kernel_rfl))
 f225 := Tryz.func182.trans (congrArg some (by kernel_rfl))
 f227 := Tryz.func126.trans (congrArg some (by kernel_rfl))
 f228 := Tryz.func171.trans (congrArg some (by kernel_rfl))
 f232 := Tryz.func125.trans (congrArg some (by kernel_rfl))
 f234 := Tryz.func127.trans (congrArg some (by kernel_rfl))
 f236 := Tryz.func128.trans (congrArg some (by kernel_rfl))
 f260 := Tryz.func205.trans (congrArg some (by kernel_rfl))
 f266 := Tryz.func181.trans (congrArg some (by kernel_rfl))
 f271 := Tryz.func172.trans (congrArg some (by kernel_rfl))
 t0 := Tryz.underlying0
 a0 := Tryz.isAgg0
 z0 := Tryz.sizeOf0
 v0 := Tryz.zeroValue0
 t3 := Tryz.underlying3
 a3 := Tryz.isAgg3
 z3 := Tryz.sizeOf3
 v3 := Tryz.zeroValue3
 t4 := Tryz.underlying4
 a4 := Tryz.isAgg4
 z4 := Tryz.sizeOf4
 v4 := Tryz.zeroValue4
 t5 := Tryz.underlying5
 a5 := Tryz.isAgg5
 z5 := Tryz.sizeOf5
 v5 := Tryz.zeroValue5
 t9 := Tryz.underlying9
 a9 := Tryz.isAgg9
 z9 := Tryz.sizeOf9
 v9 := Tryz.zeroValue9
 t21 := Tryz.underlying21
 a21 := Tryz.isAgg21
 z21 := Tryz.sizeOf21
 v21 := Tryz.zeroValue21
 t46 := Tryz.underlying135
 a46 := Tryz.isAgg135
 z46 := Tryz.sizeOf135
 v46 := Tryz.zeroValue135
 t105 := Tryz.underlying180
 a105 := Tryz.isAgg180
 z105 := Tryz.sizeOf180
 v105 := Tryz.zeroValue180
 t116 := Tryz.underlying147
 a116 := Tryz.isAgg147
 z116 := Tryz.sizeOf147
 t117 := Tryz.underlying148
 a117 := Tryz.isAgg148
 z117 := Tryz.sizeOf148
 v117 := Tryz.zeroValue148
 t119 := Tryz.underlying220
 a119 := Tryz.isAgg220
 z119 := Tryz.sizeOf220
 t124 := Tryz.underlying151
 a124 := Tryz.isAgg151
 z124 := Tryz.sizeOf151
 v124 := Tryz.zeroValue151
 t138 := Tryz.underlying222
 a138 := Tryz.isAgg222
 z138 := Tryz.sizeOf222
 v138 := Tryz.zeroValue222
 t139 := Tryz.underlying223
 a139 := Tryz.isAgg223
 z139 := Tryz.sizeOf223
 v139 := Tryz.zeroValue223
 g3 := by kernel_rfl
 g4 := by kernel_rfl }
open Go.RowKit in
theorem Tryz.strings_TrimRight_one (s : ByteArray) (c : UInt8) (hc : c.toNat < 128) (w : World) (hs : s.size ≤ 9223372036854775807) :
  Calls Tryz.prog 84 #[.string s, .string ⟨#[c]⟩] w fun e w' => e = .returned (.string ⟨(Lib.trimRightB s.data.toList c).toArray⟩) ∧ w' = w := Any.strings_TrimRight_one Tryz.lays162 s c hc w hs
def Tryz.lays137_ren : Go.Shelf.Ren := ⟨fun | 137 => 94 | 217 => 140 | 266 => 181 | n => n, fun | 9 => 9 | 5 => 5 | 3 => 3 | n => n, fun | n => n⟩
theorem Tryz.lays137 : Go.Proofs.Lays.n137 Tryz.prog Tryz.lays137_ren := {
 mixed := by kernel_rfl
 f137 := Tryz.func94.trans (congrArg some (by kernel_rfl))
 f217 := Tryz.func140.trans (congrArg some (by kernel_rfl))
 f266 := Tryz.func181.trans (congrArg some (by kernel_rfl))
 t3 := Tryz.underlying3
 a3 := Tryz.isAgg3
 z3 := Tryz.sizeOf3
 v3 := Tryz.zeroValue3
 t5 := Tryz.underlying5
 a5 := Tryz.isAgg5
 z5 := Tryz.sizeOf5
 v5 := Tryz.zeroValue5
 t9 := Tryz.underlying9
 a9 := Tryz.isAgg9
 z9 := Tryz.sizeOf9
 v9 := Tryz.zeroValue9 }
open Go.RowKit in
theorem Tryz.strings_IndexByte (s : ByteArray) (c : Int) (w : World) :
  Calls Tryz.prog 94 #[.string s, .int .u8 c] w fun e w' => e = .returned (.int .i64 (Lib.indexByte s.data.toList c.toNat.toUInt8)) ∧ w' = w := Any.strings_IndexByte Tryz.lays137 s c w
open Go.RowKit in
theorem Tryz.Builder_String_any_f (B b : Nat) (l : List UInt8) (w : World) (h : Lib.IsBuilderF 120 5 B b (Lib.byteCells l) w) (hBw : B ≤ w.heap.size) :
  Calls Tryz.prog 80 #[.pointer (some ⟨b, 0, none⟩)] w fun e w' => e = .returned (.string ⟨l.toArray⟩) ∧ (Lib.IsBuilderF 120 5 B b (Lib.byteCells l) w' ∧ Below B w w') := Any.Builder_String_any_f Tryz.lays169 Tryz.Builder_Extra_169 B b l w h hBw
def Tryz.lays172_ren : Go.Shelf.Ren := ⟨fun | 172 => 64 | 244 => 105 | 245 => 106 | 247 => 156 | 279 => 157 | 280 => 158 | 281 => 159 | 282 => 160 | 287 => 193 | 316 => 194 | 171 => 62 | 205 => 195 | 321 => 218 | 322 => 219 | 243 => 102 | 246 => 154 | 283 => 189 | 284 => 190 | 285 => 191 | 286 => 192 | 129 => 214 | 317 => 213 | 318 => 215 | 319 => 216 | 320 => 217 | 337 => 223 | 338 => 224 | n => n, fun | 9 => 9 | 3 => 3 | 75 => 104 | 76 => 105 | 4 => 4 | 5 => 5 | 167 => 168 | 37 => 118 | 0 => 0 | 85 => 169 | 2 => 2 | 168 => 171 | 53 => 34 | 175 => 194 | 46 => 135 | 210 => 197 | 127 => 144 | 145 => 218 | 143 => 216 | 21 => 21 | 171 => 189 | 173 => 192 | 212 => 212 | 51 => 165 | 20 => 20 | 213 => 213 | 232 => 225 | 233 => 226 | 80 => 122 | n => n, fun | 15 => 1 | 16 => 2 | 17 => 3 | 18 => 6 | 19 => 7 | n => n⟩
theorem Tryz.lays172 : Go.Proofs.Lays.n172 Tryz.prog Tryz.lays172_ren := {
 mixed := by kernel_rfl
 f129 := Tryz.func214.trans (congrArg some (by kernel_rfl))
 f171 := Tryz.func62.trans (congrArg some (by kernel_rfl))
 f172 := Tryz.func64.trans (congrArg some (by kernel_rfl))
 f205 := Tryz.func195.trans (congrArg some (by kernel_rfl))
 f243 := Tryz.func102.trans (congrArg some (by kernel_rfl))
 f244 := Tryz.func105.trans (congrArg some (by kernel_rfl))
 f245 := Tryz.func106.trans (congrArg some (by kernel_rfl))
 f246 := Tryz.func154.trans (congrArg some (by kernel_rfl))
 f247 := Tryz.func156.trans (congrArg some (by kernel_rfl))
 f279 := Tryz.func157.trans (congrArg some (by kernel_rfl))
 f280 := Tryz.func158.trans (congrArg some (by kernel_rfl))
 f281 := Tryz.func159.trans (congrArg some (by kernel_rfl))
 f282 := Tryz.func160.trans (congrArg some (by kernel_rfl))
 f283 := Tryz.func189.trans (congrArg some (by kernel_rfl))
 f284 := Tryz.func190.trans (congrArg some (by kernel_rfl))
 f285 := Tryz.func191.trans (congrArg some (by kernel_rfl))
 f286 := Tryz.func192.trans (congrArg some (by kernel_rfl))
 f287 := Tryz.func193.trans (congrArg some (by kernel_rfl))
 f316 := Tryz.func194.trans (congrArg some (by kernel_rfl))
 f317 := Tryz.func213.trans (congrArg some (by kernel_rfl))
 f318 := Tryz.func215.trans (congrArg some (by kernel_rfl))
 f319 := Tryz.func216.trans (congrArg some (by kernel_rfl))
 f320 := Tryz.func217.trans (congrArg some (by kernel_rfl))
 f321 := Tryz.func218.trans (congrArg some (by kernel_rfl))
 f322 := Tryz.func219.trans (congrArg some (by kernel_rfl))
 f337 := Tryz.func223.trans (congrArg some (by kernel_rfl))
 f338 := Tryz.func224.trans (congrArg some (by kernel_rfl))
 t0 := Tryz.underlying0
 a0 := Tryz.isAgg0
 z0 := Tryz.sizeOf0
 v0 := Tryz.zeroValue0
 t2 := Tryz.underlying2
 a2 := Tryz.isAgg2
 z2 := Tryz.sizeOf2
 v2 := Tryz.zeroValue2
 t3 := Tryz.underlying3
 a3 := Tryz.isAgg3
 z3 := Tryz.sizeOf3
 v3 := Tryz.zeroValue3
 t4 := Tryz.underlying4
 a4 := Tryz.isAgg4
 z4 := Tryz.sizeOf4
 v4 := Tryz.zeroValue4
 t5 := Tryz.underlying5
 a5 := Tryz.isAgg5
 z5 := Tryz.sizeOf5
 v5 := Tryz.zeroValue5
 t9 := Tryz.underlying9
 a9 := Tryz.isAgg9
 z9 := Tryz.sizeOf9
 v9 := Tryz.zeroValue9
 t20 := Tryz.underlying20
 a20 := Tryz.isAgg20
 z20 := Tryz.sizeOf20
 v20 := Tryz.zeroValue20
 t21 := Tryz.underlying21
 a21 := Tryz.isAgg21
 z21 := Tryz.sizeOf21
 v21 := Tryz.zeroValue21
 t37 := Tryz.underlying118
 a37 := Tryz.isAgg118
 z37 := Tryz.sizeOf118
 v37 := Tryz.zeroValue118
 t46 := Tryz.underlying135
 a46 := Tryz.isAgg135
 z46 := Tryz.sizeOf135
 v46 := Tryz.zeroValue135
 t51 := Tryz.underlying165
 a51 := Tryz.isAgg165
 z51 := Tryz.sizeOf165
 v51 := Tryz.zeroValue165
 t53 := Tryz.underlying34
 a53 := Tryz.isAgg34
 z53 := Tryz.sizeOf34
 v53 := Tryz.zeroValue34
 t75 := Tryz.underlying104
 a75 := Tryz.isAgg104
 z75 := Tryz.sizeOf104
 v75 := Tryz.zeroValue104
 t76 := Tryz.underlying105
 a76 := Tryz.isAgg105
 z76 := Tryz.sizeOf105
 v76 := Tryz.zeroValue105
 t85 := Tryz.underlying169
 a85 := Tryz.isAgg169
 z85 := Tryz.sizeOf169
 v85 := Tryz.zeroValue169
 t127 := Tryz.underlying144
 a127 := Tryz.isAgg144
 z127 := Tryz.sizeOf144
 v127 := Tryz.zeroValue144
 t143 := Tryz.underlying216
 a143 := Tryz.isAgg216
 z143 := Tryz.sizeOf216
 v143 := Tryz.zeroValue216
 t145 := Tryz.underlying218
 a145 := Tryz.isAgg218
 z145 := Tryz.sizeOf218
 v145 := Tryz.zeroValue218
 t167 := Tryz.underlying168
 a167 := Tryz.isAgg168
 z167 := Tryz.sizeOf168
 v167 := Tryz.zeroValue168
 t168 := Tryz.underlying171
 a168 := Tryz.isAgg171
 z168 := Tryz.sizeOf171
 v168 := Tryz.zeroValue171
 t171 := Tryz.underlying189
 a171 := Tryz.isAgg189
 z171 := Tryz.sizeOf189
 v171 := Tryz.zeroValue189
 t173 := Tryz.underlying192
 a173 := Tryz.isAgg192
 z173 := Tryz.sizeOf192
 v173 := Tryz.zeroValue192
 t175 := Tryz.underlying194
 a175 := Tryz.isAgg194
 z175 := Tryz.sizeOf194
 v175 := Tryz.zeroValue194
 t210 := Tryz.underlying197
 a210 := Tryz.isAgg197
 z210 := Tryz.sizeOf197
 v210 := Tryz.zeroValue197
 t212 := Tryz.underlying212
 a212 := Tryz.isAgg212
 z212 := Tryz.sizeOf212
 v212 := Tryz.zeroValue212
 t213 := Tryz.underlying213
 a213 := Tryz.isAgg213
 z213 := Tryz.sizeOf213
 t232 := Tryz.underlying225
 a232 := Tryz.isAgg225
 z232 := Tryz.sizeOf225
 v232 := Tryz.zeroValue225
 t233 := Tryz.underlying226
 a233 := Tryz.isAgg226
 z233 := Tryz.sizeOf226
 v233 := Tryz.zeroValue226
 g15 := by kernel_rfl
 g16 := by kernel_rfl
 g17 := by kernel_rfl
 g18 := by kernel_rfl
 g19 := by kernel_rfl }
open Go.RowKit in
theorem Tryz.strconv_Atoi (s : ByteArray) (n : Int) (hl : s.size ≤ 18) (h : Lib.atoi s.data.toList = some n) (w : World) :
  Calls Tryz.prog 64 #[.string s] w fun e w' => e = .returned (.tuple #[.int .i64 n, .nilIface]) ∧ ∃ t, w' = Lib.bytesWorld w 5 t := Any.strconv_Atoi Tryz.lays172 s n hl h w
def Tryz.laysM171_ren : Go.Shelf.Ren := ⟨fun | 171 => 62 | 243 => 102 | 246 => 154 | 283 => 189 | 284 => 190 | 285 => 191 | 286 => 192 | 129 => 214 | 317 => 213 | 318 => 215 | 319 => 216 | 320 => 217 | 337 => 223 | 338 => 224 | n => n, fun | 3 => 3 | 9 => 9 | 2 => 2 | 4 => 4 | 171 => 189 | 0 => 0 | 53 => 34 | 37 => 118 | 5 => 5 | 173 => 192 | 212 => 212 | 51 => 165 | 20 => 20 | 213 => 213 | 46 => 135 | 232 => 225 | 233 => 226 | n => n, fun | 17 => 3 | 18 => 6 | 19 => 7 | n => n⟩
theorem Tryz.laysM171 : Go.Proofs.LaysM.n171 Tryz.prog Tryz.laysM171_ren := {
 mixed := by kernel_rfl
 f129 := Tryz.func214.trans (congrArg some (by kernel_rfl))
 f171 := Tryz.func62.trans (congrArg some (by kernel_rfl))
 f243 := Tryz.func102.trans (congrArg some (by kernel_rfl))
 f246 := Tryz.func154.trans (congrArg some (by kernel_rfl))
 f283 := Tryz.func189.trans (congrArg some (by kernel_rfl))
 f284 := Tryz.func190.trans (congrArg some (by kernel_rfl))
 f285 := Tryz.func191.trans (congrArg some (by kernel_rfl))
 f286 := Tryz.func192.trans (congrArg some (by kernel_rfl))
 f317 := Tryz.func213.trans (congrArg some (by kernel_rfl))
 f318 := Tryz.func215.trans (congrArg some (by kernel_rfl))
 f319 := Tryz.func216.trans (congrArg some (by kernel_rfl))
 f320 := Tryz.func217.trans (congrArg some (by kernel_rfl))
 f337 := Tryz.func223.trans (congrArg some (by kernel_rfl))
 f338 := Tryz.func224.trans (congrArg some (by kernel_rfl))
 t0 := Tryz.underlying0
 a0 := Tryz.isAgg0
 z0 := Tryz.sizeOf0
 v0 := Tryz.zeroValue0
 t2 := Tryz.underlying2
 a2 := Tryz.isAgg2
 z2 := Tryz.sizeOf2
 v2 := Tryz.zeroValue2
 t3 := Tryz.underlying3
 a3 := Tryz.isAgg3
 z3 := Tryz.sizeOf3
 v3 := Tryz.zeroValue3
 t4 := Tryz.underlying4
 a4 := Tryz.isAgg4
 z4 := Tryz.sizeOf4
 v4 := Tryz.zeroValue4
 t5 := Tryz.underlying5
 a5 := Tryz.isAgg5
 z5 := Tryz.sizeOf5
 v5 := Tryz.zeroValue5
 t9 := Tryz.underlying9
 a9 := Tryz.isAgg9
 z9 := Tryz.sizeOf9
 v9 := Tryz.zeroValue9
 t20 := Tryz.underlying20
 a20 := Tryz.isAgg20
 z20 := Tryz.sizeOf20
 v20 := Tryz.zeroValue20
 t37 := Tryz.underlying118
 a37 := Tryz.isAgg118
 z37 := Tryz.sizeOf118
 v37 := Tryz.zeroValue118
 t46 := Tryz.underlying135
 a46 := Tryz.isAgg135
 z46 := Tryz.sizeOf135
 v46 := Tryz.zeroValue135
 t51 := Tryz.underlying165
 a51 := Tryz.isAgg165
 z51 := Tryz.sizeOf165
 v51 := Tryz.zeroValue165
 t53 := Tryz.underlying34
 a53 := Tryz.isAgg34
 z53 := Tryz.sizeOf34
 v53 := Tryz.zeroValue34
 t171 := Tryz.underlying189
 a171 := Tryz.isAgg189
 z171 := Tryz.sizeOf189
 v171 := Tryz.zeroValue189
 t173 := Tryz.underlying192
 a173 := Tryz.isAgg192
 z173 := Tryz.sizeOf192
 v173 := Tryz.zeroValue192
 t212 := Tryz.underlying212
 a212 := Tryz.isAgg212
 z212 := Tryz.sizeOf212
 v212 := Tryz.zeroValue212
 t213 := Tryz.underlying213
 a213 := Tryz.isAgg213
 z213 := Tryz.sizeOf213
 t232 := Tryz.underlying225
 a232 := Tryz.isAgg225
 z232 := Tryz.sizeOf225
 v232 := Tryz.zeroValue225
 t233 := Tryz.underlying226
 a233 := Tryz.isAgg226
 z233 := Tryz.sizeOf226
 v233 := Tryz.zeroValue226
 g17 := by kernel_rfl
 g18 := by kernel_rfl
 g19 := by kernel_rfl
 i0 := by kernel_rfl
 i2 := by kernel_rfl
 i3 := by kernel_rfl
 i4 := by kernel_rfl
 i5 := by kernel_rfl
 i9 := by kernel_rfl
 i20 := by kernel_rfl
 i37 := by kernel_rfl
 i46 := by kernel_rfl
 i51 := by kernel_rfl
 i53 := by kernel_rfl
 i171 := by kernel_rfl
 i173 := by kernel_rfl
 i212 := by kernel_rfl
 i232 := by kernel_rfl
 i233 := by kernel_rfl
 m17 := by kernel_rfl
 m18 := by kernel_rfl
 m19 := by kernel_rfl }
open Go.RowKit Go.Sort Go.Lib in
theorem Tryz.strconv_Itoa (n : Int) (h0 : -9223372036854775808 ≤ n) (h1 : n ≤ 9223372036854775807) (w : World) (htab : Lib.TabIs Tryz.prog w "internal/strconv.uint64pow10" .u64 Lib.pow10Tab) :
  Calls Tryz.prog 62 #[.int .i64 n] w fun e w' => e = .returned (.string ⟨(Lib.itoa n).toArray⟩) ∧ ∃ k os, w' = grow (w.drewN k) os := Any.strconv_Itoa Tryz.laysM171 n h0 h1 w htab
def Tryz.laysC174_ren : Go.Shelf.Ren := ⟨fun | 174 => 210 | 247 => 156 | 245 => 106 | 287 => 193 | 279 => 157 | 280 => 158 | 281 => 159 | 282 => 160 | 321 => 218 | 322 => 219 | 316 => 194 | 171 => 62 | 205 => 195 | 243 => 102 | 246 => 154 | 283 => 189 | 284 => 190 | 285 => 191 | 286 => 192 | 129 => 214 | 317 => 213 | 318 => 215 | 319 => 216 | 320 => 217 | 337 => 223 | 338 => 224 | n => n, fun | 9 => 9 | 3 => 3 | 2 => 2 | 75 => 104 | 85 => 169 | 4 => 4 | 167 => 168 | 5 => 5 | 53 => 34 | 175 => 194 | 46 => 135 | 168 => 171 | 37 => 118 | 0 => 0 | 210 => 197 | 21 => 21 | 127 => 144 | 145 => 218 | 143 => 216 | 171 => 189 | 173 => 192 | 212 => 212 | 51 => 165 | 20 => 20 | 213 => 213 | 232 => 225 | 233 => 226 | 80 => 122 | n => n, fun | 15 => 1 | 16 => 2 | 17 => 3 | 18 => 6 | 19 => 7 | n => n⟩
theorem Tryz.laysC174 : Go.Proofs.LaysC.n174 Tryz.prog Tryz.laysC174_ren := {
 mixed := by kernel_rfl
 f129 := Tryz.func214.trans (congrArg some (by kernel_rfl))
 f171 := Tryz.func62.trans (congrArg some (by kernel_rfl))
 f174 := Tryz.func210.trans (congrArg some (by kernel_rfl))
 f205 := Tryz.func195.trans (congrArg some (by kernel_rfl))
 f243 := Tryz.func102.trans (congrArg some (by kernel_rfl))
 f245 := Tryz.func106.trans (congrArg some (by kernel_rfl))
 f246 := Tryz.func154.trans (congrArg some (by kernel_rfl))
 f247 := Tryz.func156.trans (congrArg some (by kernel_rfl))
 f279 := Tryz.func157.trans (congrArg some (by kernel_rfl))
 f280 := Tryz.func158.trans (congrArg some (by kernel_rfl))
 f281 := Tryz.func159.trans (congrArg some (by kernel_rfl))
 f282 := Tryz.func160.trans (congrArg some (by kernel_rfl))
 f283 := Tryz.func189.trans (congrArg some (by kernel_rfl))
 f284 := Tryz.func190.trans (congrArg some (by kernel_rfl))
 f285 := Tryz.func191.trans (congrArg some (by kernel_rfl))
 f286 := Tryz.func192.trans (congrArg some (by kernel_rfl))
 f287 := Tryz.func193.trans (congrArg some (by kernel_rfl))
 f316 := Tryz.func194.trans (congrArg some (by kernel_rfl))
 f317 := Tryz.func213.trans (congrArg some (by kernel_rfl))
 f318 := Tryz.func215.trans (congrArg some (by kernel_rfl))
 f319 := Tryz.func216.trans (congrArg some (by kernel_rfl))
 f320 := Tryz.func217.trans (congrArg some (by kernel_rfl))
 f321 := Tryz.func218.trans (congrArg some (by kernel_rfl))
 f322 := Tryz.func219.trans (congrArg some (by kernel_rfl))
 f337 := Tryz.func223.trans (congrArg some (by kernel_rfl))
 f338 := Tryz.func224.trans (congrArg some (by kernel_rfl))
 t0 := Tryz.underlying0
 a0 := Tryz.isAgg0
 z0 := Tryz.sizeOf0
 v0 := Tryz.zeroValue0
 t2 := Tryz.underlying2
 a2 := Tryz.isAgg2
 z2 := Tryz.sizeOf2
 v2 := Tryz.zeroValue2
 t3 := Tryz.underlying3
 a3 := Tryz.isAgg3
 z3 := Tryz.sizeOf3
 v3 := Tryz.zeroValue3
 t4 := Tryz.underlying4
 a4 := Tryz.isAgg4
 z4 := Tryz.sizeOf4
 v4 := Tryz.zeroValue4
 t5 := Tryz.underlying5
 a5 := Tryz.isAgg5
 z5 := Tryz.sizeOf5
 v5 := Tryz.zeroValue5
 t9 := Tryz.underlying9
 a9 := Tryz.isAgg9
 z9 := Tryz.sizeOf9
 v9 := Tryz.zeroValue9
 t20 := Tryz.underlying20
 a20 := Tryz.isAgg20
 z20 := Tryz.sizeOf20
 v20 := Tryz.zeroValue20
 t21 := Tryz.underlying21
 a21 := Tryz.isAgg21
 z21 := Tryz.sizeOf21
 v21 := Tryz.zeroValue21
 t37 := Tryz.underlying118
 a37 := Tryz.isAgg118
 z37 := Tryz.sizeOf118
 v37 := Tryz.zeroValue118
 t46 := Tryz.underlying135
 a46 := Tryz.isAgg135
 z46 := Tryz.sizeOf135
 v46 := Tryz.zeroValue135
 t51 := Tryz.underlying165
 a51 := Tryz.isAgg165
 z51 := Tryz.sizeOf165
 v51 := Tryz.zeroValue165
 t53 := Tryz.underlying34
 a53 := Tryz.isAgg34
 z53 := Tryz.sizeOf34
 v53 := Tryz.zeroValue34
 t75 := Tryz.underlying104
 a75 := Tryz.isAgg104
 z75 := Tryz.sizeOf104
 v75 := Tryz.zeroValue104
 t85 := Tryz.underlying169
 a85 := Tryz.isAgg169
 z85 := Tryz.sizeOf169
 v85 := Tryz.zeroValue169
 t127 := Tryz.underlying144
 a127 := Tryz.isAgg144
 z127 := Tryz.sizeOf144
 v127 := Tryz.zeroValue144
 t143 := Tryz.underlying216
 a143 := Tryz.isAgg216
 z143 := Tryz.sizeOf216
 v143 := Tryz.zeroValue216
 t145 := Tryz.underlying218
 a145 := Tryz.isAgg218
 z145 := Tryz.sizeOf218
 v145 := Tryz.zeroValue218
 t167 := Tryz.underlying168
 a167 := Tryz.isAgg168
 z167 := Tryz.sizeOf168
 v167 := Tryz.zeroValue168
 t168 := Tryz.underlying171
 a168 := Tryz.isAgg171
 z168 := Tryz.sizeOf171
 v168 := Tryz.zeroValue171
 t171 := Tryz.underlying189
 a171 := Tryz.isAgg189
 z171 := Tryz.sizeOf189
 v171 := Tryz.zeroValue189
 t173 := Tryz.underlying192
 a173 := Tryz.isAgg192
 z173 := Tryz.sizeOf192
 v173 := Tryz.zeroValue192
 t175 := Tryz.underlying194
 a175 := Tryz.isAgg194
 z175 := Tryz.sizeOf194
 v175 := Tryz.zeroValue194
 t210 := Tryz.underlying197
 a210 := Tryz.isAgg197
 z210 := Tryz.sizeOf197
 v210 := Tryz.zeroValue197
 t212 := Tryz.underlying212
 a212 := Tryz.isAgg212
 z212 := Tryz.sizeOf212
 v212 := Tryz.zeroValue212
 t213 := Tryz.underlying213
 a213 := Tryz.isAgg213
 z213 := Tryz.sizeOf213
 t232 := Tryz.underlying225
 a232 := Tryz.isAgg225
 z232 := Tryz.sizeOf225
 v232 := Tryz.zeroValue225
 t233 := Tryz.underlying226
 a233 := Tryz.isAgg226
 z233 := Tryz.sizeOf226
 v233 := Tryz.zeroValue226
 g15 := by kernel_rfl
 g16 := by kernel_rfl
 g17 := by kernel_rfl
 g18 := by kernel_rfl
 g19 := by kernel_rfl
 t80 := Tryz.underlying122
 a80 := Tryz.isAgg122
 z80 := Tryz.sizeOf122
 v80 := Tryz.zeroValue122
 i0 := by kernel_rfl
 i2 := by kernel_rfl
 i3 := by kernel_rfl
 i4 := by kernel_rfl
 i5 := by kernel_rfl
 i9 := by kernel_rfl
 i20 := by kernel_rfl
 i21 := by kernel_rfl
 i37 := by kernel_rfl
 i46 := by kernel_rfl
 i51 := by kernel_rfl
 i53 := by kernel_rfl
 i75 := by kernel_rfl
 i80 := by kernel_rfl
 i85 := by kernel_rfl
 i127 := by kernel_rfl
 i143 := by kernel_rfl
 i145 := by kernel_rfl
 i167 := by kernel_rfl
 i168 := by kernel_rfl
 i171 := by kernel_rfl
 i173 := by kernel_rfl
 i175 := by kernel_rfl
 i210 := by kernel_rfl
 i212 := by kernel_rfl
 i232 := by kernel_rfl
 i233 := by kernel_rfl
 m15 := by kernel_rfl
 m16 := by kernel_rfl
 m17 := by kernel_rfl
 m18 := by kernel_rfl
 m19 := by kernel_rfl
 c0 := by kernel_rfl
 c2 := by kernel_rfl
 c3 := by kernel_rfl
 c4 := by kernel_rfl
 c5 := by kernel_rfl
 c9 := by kernel_rfl
 c20 := by kernel_rfl
 c21 := by kernel_rfl
 c37 := by kernel_rfl
 c46 := by kernel_rfl
 c51 := by kernel_rfl
 c53 := by kernel_rfl
 c75 := by kernel_rfl
 c80 := by kernel_rfl
 c85 := by kernel_rfl
 c127 := by kernel_rfl
 c143 := by kernel_rfl
 c145 := by kernel_rfl
 c167 := by kernel_rfl
 c168 := by kernel_rfl
 c171 := by kernel_rfl
 c173 := by kernel_rfl
 c175 := by kernel_rfl
 c210 := by kernel_rfl
 c212 := by kernel_rfl
 c213 := by kernel_rfl
 c232 := by kernel_rfl
 c233 := by kernel_rfl }
open Go.RowKit in
theorem Tryz.strconv_ParseInt_10_at64_ok (s : ByteArray) (hmax : s.size ≤ 9223372036854775806) (v : Int) (h : Lib.parseIntB 64 s.data.toList = .ok v) (w : World) :
  Calls Tryz.prog 210 #[.string s, .int .i64 10, .int .i64 64] w fun e w' => e = .returned (.tuple #[.int .i64 v, .nilIface]) ∧ (w' = w ∨ ∃ t, w' = Lib.bytesWorld w 5 t) := Any.strconv_ParseInt_10_at64_ok Tryz.laysC174 s hmax v h w
open Go.RowKit in
theorem Tryz.strconv_ParseInt_10_at64_syntax (s : ByteArray) (hlim : s.size ≤ 281474976710656) (h : Lib.parseIntB 64 s.data.toList = synR) (ev : Value) (w : World) (hv : w.cell? ⟨1, 0, none⟩ = some ev) (hev : ev = .nilIface ∨ ∃ te pe, ev = .iface te pe) :
  Calls Tryz.prog 210 #[.string s, .int .i64 10, .int .i64 64] w fun e w' => ∃ N, e = .returned (.tuple #[.int .i64 (0), .iface 171 (.pointer (some ⟨N, 0, none⟩))]) ∧ w.heap.size ≤ N ∧ w'.heap[N]? = some (.cells #[.string ⟨#[80, 97, 114, 115, 101, 73, 110, 116]⟩, .string s, ev] 197 (0, 0)) ∧ Below w.heap.size w w' := Any.strconv_ParseInt_10_at64_syntax Tryz.laysC174 s hlim h ev w hv hev
open Go.RowKit in
theorem Tryz.strconv_ParseInt_10_at64_range (s : ByteArray) (hlim : s.size ≤ 281474976710656) (h : Lib.parseIntB 64 s.data.toList = .range) (ev : Value) (w : World) (hv : w.cell? ⟨2, 0, none⟩ = some ev) (hev : ev = .nilIface ∨ ∃ te pe, ev = .iface te pe) :
  Calls Tryz.prog 210 #[.string s, .int .i64 10, .int .i64 64] w fun e w' => ∃ N, e = .returned (.tuple #[.int .i64 (Lib.intSat 64 s.data.toList), .iface 171 (.pointer (some ⟨N, 0, none⟩))]) ∧ w.heap.size ≤ N ∧ w'.heap[N]? = some (.cells #[.string ⟨#[80, 97, 114, 115, 101, 73, 110, 116]⟩, .string s, ev] 197 (0, 0)) ∧ Below w.heap.size w w' := Any.strconv_ParseInt_10_at64_range Tryz.laysC174 s hlim h ev w hv hev
def Tryz.lays219_ren : Go.Shelf.Ren := ⟨fun | 219 => 141 | 217 => 140 | 225 => 182 | 224 => 183 | 267 => 184 | 266 => 181 | 314 => 211 | n => n, fun | 9 => 9 | 3 => 3 | 4 => 4 | 5 => 5 | 46 => 135 | 146 => 166 | 51 => 165 | n => n, fun | 1 => 0 | n => n⟩
theorem Tryz.lays219 : Go.Proofs.Lays.n219 Tryz.prog Tryz.lays219_ren := {
 mixed := by kernel_rfl
 f217 := Tryz.func140.trans (congrArg some (by kernel_rfl))
 f219 := Tryz.func141.trans (congrArg some (by kernel_rfl))
 f224 := Tryz.func183.trans (congrArg some (by kernel_rfl))
 f225 := Tryz.func182.trans (congrArg some (by kernel_rfl))
 f266 := Tryz.func181.trans (congrArg some (by kernel_rfl))
 f267 := Tryz.func184.trans (congrArg some (by kernel_rfl))
 f314 := Tryz.func211.trans (congrArg some (by kernel_rfl))
 t3 := Tryz.underlying3
 a3 := Tryz.isAgg3
 z3 := Tryz.sizeOf3
 v3 := Tryz.zeroValue3
 t4 := Tryz.underlying4
 a4 := Tryz.isAgg4
 z4 := Tryz.sizeOf4
 v4 := Tryz.zeroValue4
 t5 := Tryz.underlying5
 a5 := Tryz.isAgg5
 z5 := Tryz.sizeOf5
 v5 := Tryz.zeroValue5
 t9 := Tryz.underlying9
 a9 := Tryz.isAgg9
 z9 := Tryz.sizeOf9
 v9 := Tryz.zeroValue9
 t46 := Tryz.underlying135
 a46 := Tryz.isAgg135
 z46 := Tryz.sizeOf135
 v46 := Tryz.zeroValue135
 t51 := Tryz.underlying165
 a51 := Tryz.isAgg165
 z51 := Tryz.sizeOf165
 v51 := Tryz.zeroValue165
 t146 := Tryz.underlying166
 a146 := Tryz.isAgg166
 z146 := Tryz.sizeOf166
 v146 := Tryz.zeroValue166
 g1 := by kernel_rfl }
open Go.RowKit Go.Lib in
theorem Tryz.stringslite_Index_one (s : ByteArray) (c : UInt8) (w : World) :
  Calls Tryz.prog 141 #[.string s, .string ⟨#[c]⟩] w fun e w' => e = .returned (.int .i64 (Lib.indexByte s.data.toList c)) ∧ w' = w := Any.stringslite_Index_one Tryz.lays219 s c w
def Tryz.lays143_ren : Go.Shelf.Ren := ⟨fun | 143 => 95 | 219 => 141 | 217 => 140 | 225 => 182 | 224 => 183 | 267 => 184 | 266 => 181 | 314 => 211 | n => n, fun | 9 => 9 | 3 => 3 | 4 => 4 | 5 => 5 | 46 => 135 | 146 => 166 | 51 => 165 | n => n, fun | 1 => 0 | n => n⟩
theorem Tryz.lays143 : Go.Proofs.Lays.n143 Tryz.prog Tryz.lays143_ren := {
 mixed := by kernel_rfl
 f143 := Tryz.func95.trans (congrArg some (by kernel_rfl))
 f217 := Tryz.func140.trans (congrArg some (by kernel_rfl))
 f219 := Tryz.func141.trans (congrArg some (by kernel_rfl))
 f224 := Tryz.func183.trans (congrArg some (by kernel_rfl))
 f225 := Tryz.func182.trans (congrArg some (by kernel_rfl))
 f266 := Tryz.func181.trans (congrArg some (by kernel_rfl))
 f267 := Tryz.func184.trans (congrArg some (by kernel_rfl))
 f314 := Tryz.func211.trans (congrArg some (by kernel_rfl))
 t3 := Tryz.underlying3
 a3 := Tryz.isAgg3
 z3 := Tryz.sizeOf3
 v3 := Tryz.zeroValue3
 t4 := Tryz.underlying4
 a4 := Tryz.isAgg4
 z4 := Tryz.sizeOf4
 v4 := Tryz.zeroValue4
 t5 := Tryz.underlying5
 a5 := Tryz.isAgg5
 z5 := Tryz.sizeOf5
 v5 := Tryz.zeroValue5
 t9 := Tryz.underlying9
 a9 := Tryz.isAgg9
 z9 := Tryz.sizeOf9
 v9 := Tryz.zeroValue9
 t46 := Tryz.underlying135
 a46 := Tryz.isAgg135
 z46 := Tryz.sizeOf135
 v46 := Tryz.zeroValue135
 t51 := Tryz.underlying165
 a51 := Tryz.isAgg165
 z51 := Tryz.sizeOf165
 v51 := Tryz.zeroValue165
 t146 := Tryz.underlying166
 a146 := Tryz.isAgg166
 z146 := Tryz.sizeOf166
 v146 := Tryz.zeroValue166
 g1 := by kernel_rfl }
open Go.RowKit Go.Lib in
theorem Tryz.strings_Index_one (s : ByteArray) (c : UInt8) (w : World) :
  Calls Tryz.prog 95 #[.string s, .string ⟨#[c]⟩] w fun e w' => e = .returned (.int .i64 (Lib.indexByte s.data.toList c)) ∧ w' = w := Any.strings_Index_one Tryz.lays143 s c w
open Go.RowKit Go.Lib in
theorem Tryz.strings_Index (s sub : ByteArray) (m : Int) (w : World) (hs : s.size < 4294967281) (hm : w.cell? ⟨0, 0, none⟩ = some (.int .i64 m)) :
  Calls Tryz.prog 95 #[.string s, .string sub] w fun e w' => e = .returned (.int .i64 (Lib.index s.data.toList sub.data.toList)) ∧ w' = w := Any.strings_Index Tryz.lays143 s sub m w hs hm
def Tryz.lays144_ren : Go.Shelf.Ren := ⟨fun | 144 => 52 | 143 => 95 | 219 => 141 | 217 => 140 | 225 => 182 | 224 => 183 | 267 => 184 | 266 => 181 | 314 => 211 | n => n, fun | 9 => 9 | 4 => 4 | 3 => 3 | 5 => 5 | 46 => 135 | 146 => 166 | 51 => 165 | n => n, fun | 1 => 0 | n => n⟩
theorem Tryz.lays144 : Go.Proofs.Lays.n144 Tryz.prog Tryz.lays144_ren := {
 mixed := by kernel_rfl
 f143 := Tryz.func95.trans (congrArg some (by kernel_rfl))
 f144 := Tryz.func52.trans (congrArg some (by kernel_rfl))
 f217 := Tryz.func140.trans (congrArg some (by kernel_rfl))
 f219 := Tryz.func141.trans (congrArg some (by kernel_rfl))
 f224 := Tryz.func183.trans (congrArg some (by kernel_rfl))
 f225 := Tryz.func182.trans (congrArg some (by kernel_rfl))
 f266 := Tryz.func181.trans (congrArg some (by kernel_rfl))
 f267 := Tryz.func184.trans (congrArg some (by kernel_rfl))
 f314 := Tryz.func211.trans (congrArg some (by kernel_rfl))
 t3 := Tryz.underlying3
 a3 := Tryz.isAgg3
 z3 := Tryz.sizeOf3
 v3 := Tryz.zeroValue3
 t4 := Tryz.underlying4
 a4 := Tryz.isAgg4
 z4 := Tryz.sizeOf4
 v4 := Tryz.zeroValue4
 t5 := Tryz.underlying5
 a5 := Tryz.isAgg5
 z5 := Tryz.sizeOf5
 v5 := Tryz.zeroValue5
 t9 := Tryz.underlying9
 a9 := Tryz.isAgg9
 z9 := Tryz.sizeOf9
 v9 := Tryz.zeroValue9
 t46 := Tryz.underlying135
 a46 := Tryz.isAgg135
 z46 := Tryz.sizeOf135
 v46 := Tryz.zeroValue135
 t51 := Tryz.underlying165
 a51 := Tryz.isAgg165
 z51 := Tryz.sizeOf165
 v51 := Tryz.zeroValue165
 t146 := Tryz.underlying166
 a146 := Tryz.isAgg166
 z146 := Tryz.sizeOf166
 v146 := Tryz.zeroValue166
 g1 := by kernel_rfl }
open Go.RowKit Go.Lib in
theorem Tryz.strings_Contains_one (s : ByteArray) (c : UInt8) (w : World) :
  Calls Tryz.prog 52 #[.string s, .string ⟨#[c]⟩] w fun e w' => e = .returned (.bool (decide (0 ≤ Lib.indexByte s.data.toList c))) ∧ w' = w := Any.strings_Contains_one Tryz.lays144 s c w
open Go.RowKit Go.Lib in
theorem Tryz.strings_Contains (s sub : ByteArray) (m : Int) (w : World) (hs : s.size < 4294967281) (hm : w.cell? ⟨0, 0, none⟩ = some (.int .i64 m)) :
  Calls Tryz.prog 52 #[.string s, .string sub] w fun e w' => e = .returned (.bool (Lib.contains s.data.toList sub.data.toList)) ∧ w' = w := Any.strings_Contains Tryz.lays144 s sub m w hs hm
def Tryz.lays138_ren : Go.Shelf.Ren := ⟨fun | 138 => 164 | 195 => 198 | 218 => 199 | 143 => 95 | 219 => 141 | 217 => 140 | 225 => 182 | 224 => 183 | 267 => 184 | 266 => 181 | 314 => 211 | n => n, fun | 9 => 9 | 3 => 3 | 4 => 4 | 5 => 5 | 0 => 0 | 46 => 135 | 146 => 166 | 51 => 165 | n => n, fun | 1 => 0 | n => n⟩
theorem Tryz.lays138 : Go.Proofs.Lays.n138 Tryz.prog Tryz.lays138_ren := {
 mixed := by kernel_rfl
 f138 := Tryz.func164.trans (congrArg some (by kernel_rfl))
 f143 := Tryz.func95.trans (congrArg some (by kernel_rfl))
 f195 := Tryz.func198.trans (congrArg some (by kernel_rfl))
 f217 := Tryz.func140.trans (congrArg some (by kernel_rfl))
 f218 := Tryz.func199.trans (congrArg some (by kernel_rfl))
 f219 := Tryz.func141.trans (congrArg some (by kernel_rfl))
 f224 := Tryz.func183.trans (congrArg some (by kernel_rfl))
 f225 := Tryz.func182.trans (congrArg some (by kernel_rfl))
 f266 := Tryz.func181.trans (congrArg some (by kernel_rfl))
 f267 := Tryz.func184.trans (congrArg some (by kernel_rfl))
 f314 := Tryz.func211.trans (congrArg some (by kernel_rfl))
 t0 := Tryz.underlying0
 a0 := Tryz.isAgg0
 z0 := Tryz.sizeOf0
 v0 := Tryz.zeroValue0
 t3 := Tryz.underlying3
 a3 := Tryz.isAgg3
 z3 := Tryz.sizeOf3
 v3 := Tryz.zeroValue3
 t4 := Tryz.underlying4
 a4 := Tryz.isAgg4
 z4 := Tryz.sizeOf4
 v4 := Tryz.zeroValue4
 t5 := Tryz.underlying5
 a5 := Tryz.isAgg5
 z5 := Tryz.sizeOf5
 v5 := Tryz.zeroValue5
 t9 := Tryz.underlying9
 a9 := Tryz.isAgg9
 z9 := Tryz.sizeOf9
 v9 := Tryz.zeroValue9
 t46 := Tryz.underlying135
 a46 := Tryz.isAgg135
 z46 := Tryz.sizeOf135
 v46 := Tryz.zeroValue135
 t51 := Tryz.underlying165
 a51 := Tryz.isAgg165
 z51 := Tryz.sizeOf165
 v51 := Tryz.zeroValue165
 t146 := Tryz.underlying166
 a146 := Tryz.isAgg166
 z146 := Tryz.sizeOf166
 v146 := Tryz.zeroValue166
 g1 := by kernel_rfl }
open Go.RowKit Go.Lib in
theorem Tryz.strings_Count_one (s : ByteArray) (c : UInt8) (w : World) :
  Calls Tryz.prog 164 #[.string s, .string ⟨#[c]⟩] w fun e w' => e = .returned (.int .i64 (Lib.countByte s.data.toList c)) ∧ w' = w := Any.strings_Count_one Tryz.lays138 s c w
def Tryz.lays148_ren : Go.Shelf.Ren := ⟨fun | 148 => 63 | 222 => 103 | 223 => 104 | 269 => 155 | n => n, fun | 9 => 9 | 3 => 3 | 4 => 4 | 5 => 5 | 146 => 166 | 51 => 165 | 46 => 135 | n => n, fun | n => n⟩
theorem Tryz.lays148 : Go.Proofs.Lays.n148 Tryz.prog Tryz.lays148_ren := {
 mixed := by kernel_rfl
 f148 := Tryz.func63.trans (congrArg some (by kernel_rfl))
 f222 := Tryz.func103.trans (congrArg some (by kernel_rfl))
 f223 := Tryz.func104.trans (congrArg some (by kernel_rfl))
 f269 := Tryz.func155.trans (congrArg some (by kernel_rfl))
 t3 := Tryz.underlying3
 a3 := Tryz.isAgg3
 z3 := Tryz.sizeOf3
 v3 := Tryz.zeroValue3
 t4 := Tryz.underlying4
 a4 := Tryz.isAgg4
 z4 := Tryz.sizeOf4
 v4 := Tryz.zeroValue4
 t5 := Tryz.underlying5
 a5 := Tryz.isAgg5
 z5 := Tryz.sizeOf5
 v5 := Tryz.zeroValue5
 t9 := Tryz.underlying9
 a9 := Tryz.isAgg9
 z9 := Tryz.sizeOf9
 v9 := Tryz.zeroValue9
 t46 := Tryz.underlying135
 a46 := Tryz.isAgg135
 z46 := Tryz.sizeOf135
 v46 := Tryz.zeroValue135
 t51 := Tryz.underlying165
 a51 := Tryz.isAgg165
 z51 := Tryz.sizeOf165
 v51 := Tryz.zeroValue165
 t146 := Tryz.underlying166
 a146 := Tryz.isAgg166
 z146 := Tryz.sizeOf166
 v146 := Tryz.zeroValue166 }
open Go.RowKit Go.Lib in
theorem Tryz.strings_LastIndex (s sub : ByteArray) (hs : s.size < 4611686018427387904) (w : World) :
  Calls Tryz.prog 63 #[.string s, .string sub] w fun e w' => e = .returned (.int .i64 (Lib.lastIndex s.data.toList sub.data.toList)) ∧ w' = w := Any.strings_LastIndex Tryz.lays148 s sub hs w
def Tryz.lays100_ren : Go.Shelf.Ren := ⟨fun | 100 => 135 | 207 => 177 | n => n, fun | 9 => 9 | 4 => 4 | 3 => 3 | n => n, fun | n => n⟩
theorem Tryz.lays100 : Go.Proofs.Lays.n100 Tryz.prog Tryz.lays100_ren := {
 mixed := by kernel_rfl
 f100 := Tryz.func135.trans (congrArg some (by kernel_rfl))
 f207 := Tryz.func177.trans (congrArg some (by kernel_rfl))
 t3 := Tryz.underlying3
 a3 := Tryz.isAgg3
 z3 := Tryz.sizeOf3
 v3 := Tryz.zeroValue3
 t4 := Tryz.underlying4
 a4 := Tryz.isAgg4
 z4 := Tryz.sizeOf4
 v4 := Tryz.zeroValue4
 t9 := Tryz.underlying9
 a9 := Tryz.isAgg9
 z9 := Tryz.sizeOf9
 v9 := Tryz.zeroValue9 }
open Go.RowKit Go.Lib in
theorem Tryz.strings_HasSuffix (s p : ByteArray) (w : World) (hs : s.size ≤ 9223372036854775807) :
  Calls Tryz.prog 135 #[.string s, .string p] w fun e w' => e = .returned (.bool (Lib.hasSuffix s.data.toList p.data.toList)) ∧ w' = w := Any.strings_HasSuffix Tryz.lays100 s p w hs
def Tryz.lays221_ren : Go.Shelf.Ren := ⟨fun | 221 => 113 | 268 => 163 | 138 => 164 | 143 => 95 | 195 => 198 | 197 => 176 | 218 => 199 | 219 => 141 | 260 => 205 | 217 => 140 | 225 => 182 | 224 => 183 | 267 => 184 | 266 => 181 | 314 => 211 | n => n, fun | 9 => 9 | 3 => 3 | 31 => 93 | 4 => 4 | 0 => 0 | 105 => 180 | 21 => 21 | 5 => 5 | 46 => 135 | 119 => 220 | 139 => 223 | 138 => 222 | 146 => 166 | 51 => 165 | n => n, fun | 1 => 0 | 3 => 4 | 4 => 5 | n => n⟩
theorem Tryz.lays221 : Go.Proofs.Lays.n221 Tryz.prog Tryz.lays221_ren := {
 mixed := by kernel_rfl
 f138 := Tryz.func164.trans (congrArg some (by kernel_rfl))
 f143 := Tryz.func95.trans (congrArg some (by kernel_rfl))
 f195 := Tryz.func198.trans (congrArg some (by kernel_rfl))
 f197 := Tryz.func176.trans (congrArg some (by kernel_rfl))
 f217 := Tryz.func140.trans (congrArg some (by kernel_rfl))
 f218 := Tryz.func199.trans (congrArg some (by kernel_rfl))
 f219 := Tryz.func141.trans (congrArg some (by kernel_rfl))
 f221 := Tryz.func113.trans (congrArg some (by kernel_rfl))
 f224 := Tryz.func183.trans (congrArg some (by kernel_rfl))
 f225 := Tryz.func182.trans (congrArg some (by kernel_rfl))
 f260 := Tryz.func205.trans (congrArg some (by kernel_rfl))
 f266 := Tryz.func181.trans (congrArg some (by kernel_rfl))
 f267 := Tryz.func184.trans (congrArg some (by kernel_rfl))
 f268 := Tryz.func163.trans (congrArg some (by kernel_rfl))
 f314 := Tryz.func211.trans (congrArg some (by kernel_rfl))
 t0 := Tryz.underlying0
 a0 := Tryz.isAgg0
 z0 := Tryz.sizeOf0
 v0 := Tryz.zeroValue0
 t3 := Tryz.underlying3
 a3 := Tryz.isAgg3
 z3 := Tryz.sizeOf3
 v3 := Tryz.zeroValue3
 t4 := Tryz.underlying4
 a4 := Tryz.isAgg4
 z4 := Tryz.sizeOf4
 v4 := Tryz.zeroValue4
 t5 := Tryz.underlying5
 a5 := Tryz.isAgg5
 z5 := Tryz.sizeOf5
 v5 := Tryz.zeroValue5
 t9 := Tryz.underlying9
 a9 := Tryz.isAgg9
 z9 := Tryz.sizeOf9
 v9 := Tryz.zeroValue9
 t21 := Tryz.underlying21
 a21 := Tryz.isAgg21
 z21 := Tryz.sizeOf21
 v21 := Tryz.zeroValue21
 t31 := Tryz.underlying93
 a31 := Tryz.isAgg93
 z31 := Tryz.sizeOf93
 v31 := Tryz.zeroValue93
 t46 := Tryz.underlying135
 a46 := Tryz.isAgg135
 z46 := Tryz.sizeOf135
 v46 := Tryz.zeroValue135
 t51 := Tryz.underlying165
 a51 := Tryz.isAgg165
 z51 := Tryz.sizeOf165
 v51 := Tryz.zeroValue165
 t105 := Tryz.underlying180
 a105 := Tryz.isAgg180
 z105 := Tryz.sizeOf180
 v105 := Tryz.zeroValue180
 t119 := Tryz.underlying220
 a119 := Tryz.isAgg220
 z119 := Tryz.sizeOf220
 t138 := Tryz.underlying222
 a138 := Tryz.isAgg222
 z138 := Tryz.sizeOf222
 v138 := Tryz.zeroValue222
 t139 := Tryz.underlying223
 a139 := Tryz.isAgg223
 z139 := Tryz.sizeOf223
 v139 := Tryz.zeroValue223
 t146 := Tryz.underlying166
 a146 := Tryz.isAgg166
 z146 := Tryz.sizeOf166
 v146 := Tryz.zeroValue166
 g1 := by kernel_rfl
 g3 := by kernel_rfl
 g4 := by kernel_rfl }
end Go.Proofs
namespace Go.Proofs
open Go.Shelf Go.RowKit
def Tryz.layh167_ren : Go.Shelf.Ren := ⟨fun | 167 => 167 | 240 => 170 | 276 => 202 | n => n, fun | 37 => 118 | 70 => 117 | 72 => 120 | 75 => 104 | 80 => 122 | 164 => 203 | n => n, fun | n => n⟩
theorem Tryz.layh167 : Go.Proofs.Lays.n167 Tryz.prog Tryz.layh167_ren := {
 mixed := by kernel_rfl
 f167 := Tryz.func167.trans (congrArg some (by kernel_rfl))
 f240 := Tryz.func170.trans (congrArg some (by kernel_rfl))
 f276 := Tryz.func202.trans (congrArg some (by kernel_rfl))
 t0 := Tryz.underlying0
 a0 := Tryz.isAgg0
 z0 := Tryz.sizeOf0
 v0 := Tryz.zeroValue0
 t4 := Tryz.underlying4
 a4 := Tryz.isAgg4
 z4 := Tryz.sizeOf4
 v4 := Tryz.zeroValue4
 t5 := Tryz.underlying5
 a5 := Tryz.isAgg5
 z5 := Tryz.sizeOf5
 v5 := Tryz.zeroValue5
 t9 := Tryz.underlying9
 a9 := Tryz.isAgg9
 z9 := Tryz.sizeOf9
 v9 := Tryz.zeroValue9
 t20 := Tryz.underlying20
 a20 := Tryz.isAgg20
 z20 := Tryz.sizeOf20
 v20 := Tryz.zeroValue20
 t37 := Tryz.underlying118
 a37 := Tryz.isAgg118
 z37 := Tryz.sizeOf118
 v37 := Tryz.zeroValue118
 t70 := Tryz.underlying117
 a70 := Tryz.isAgg117
 z70 := Tryz.sizeOf117
 v70 := Tryz.zeroValue117
 t72 := Tryz.underlying120
 a72 := Tryz.isAgg120
 z72 := Tryz.sizeOf120
 v72 := Tryz.zeroValue120
 t75 := Tryz.underlying104
 a75 := Tryz.isAgg104
 z75 := Tryz.sizeOf104
 v75 := Tryz.zeroValue104
 t164 := Tryz.underlying203
 a164 := Tryz.isAgg203
 z164 := Tryz.sizeOf203
 v164 := Tryz.zeroValue203 }
theorem Tryz.Builder_Extra_h : Builder.Extra Tryz.prog Tryz.layh167_ren := {
 sizeBuilder := by kernel_rfl
 liesBuilder := by kernel_rfl
 t5 := Tryz.underlying5
 a5 := Tryz.isAgg5
 z5 := Tryz.sizeOf5
 v5 := Tryz.zeroValue5
 infoByte := by kernel_rfl
 cellsByte := by kernel_rfl
 sizeByte := by kernel_rfl
 neB5 := by decide }
theorem Tryz.writeByte_h (B b : Nat) (bs : List Value) (c : Int) (w : World) (h : Lib.IsBuilder 120 5 B b bs w) (hlen : bs.length + 1 ≤ 140737488355328) (hBw : B ≤ w.heap.size) :
  Calls Tryz.prog 167 #[.pointer (some ⟨b, 0, none⟩), .int .u8 c] w fun e w' => e = .returned .nilIface ∧ (Lib.BuilderAt 120 5 B b (.pointer (some ⟨b, 0, none⟩)) (bs ++ [.int .u8 c]) w' ∧ Below B w w') := Any.Builder_WriteByte Tryz.layh167 Tryz.Builder_Extra_h B b bs c w h hlen hBw
end Go.Proofs
