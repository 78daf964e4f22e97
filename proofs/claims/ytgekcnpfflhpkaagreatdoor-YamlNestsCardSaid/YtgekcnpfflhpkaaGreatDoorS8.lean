/-
  The texts that the claim wants, one behind the other: part 8.
-/
import Derived.Test.YtgekcnpfflhpkaaGreatDoorS7
import Derived.Shelf.Strings.Builder1
import Derived.Shelf.Strings.Builder2
import Derived.Shelf.Strings.OnBuilder
import Derived.Shelf.Strings.Trim
import Derived.Shelf.Small.Utf8
import Derived.Shelf.Small.Strs
import Derived.Shelf.Small.Wraps
import Derived.Shelf.Strings.BuilderF
import Derived.Shelf.Strings.BuilderK
import Derived.Shelf.Utf8.RuneCount
import Derived.Shelf.Strings.Builder2Cap
import Derived.Shelf.Strconv.Itoa0
import Derived.Shelf.Strconv.Itoa1
import Derived.Shelf.LaysM
import Derived.Shelf.Strconv.Itoa2
import Derived.Shelf.Strconv.Itoa3
import Derived.Shelf.Strconv.Itoa4
import Derived.Shelf.Strconv.ParseIntEmpty
import Derived.Shelf.Strconv.Clone
import Derived.Shelf.Strconv.SyntaxError
import Derived.Shelf.LaysC
import Derived.Shelf.Strconv.ToError
import Derived.Shelf.Strconv.Lower
import Derived.Shelf.Strconv.ParseUint10
import Derived.Shelf.Strconv.ParseUint10Empty
import Derived.Shelf.Strconv.ParseUint10Any
import Derived.Shelf.Strconv.ParseInt10
import Derived.Shelf.Strconv.RangeError
import Derived.Shelf.Strconv.ToErrorRange
import Derived.Shelf.Strconv.ParseUintEmpty
import Derived.Shelf.Strconv.ParseUint10b64
import Derived.Shelf.Strconv.ParseUint10b32
import Derived.Shelf.Strconv.ParseUint10b16
import Derived.Shelf.Strconv.ParseUint10b8
import Derived.Shelf.Strconv.ParseUint10At
import Derived.Shelf.Strconv.ParseInt10At64
import Derived.Shelf.Strconv.ParseInt10At32
import Derived.Shelf.Strconv.ParseInt10At16
import Derived.Shelf.Strconv.ParseInt10At8
import Derived.Shelf.Strconv.ParseInt10All
import Derived.Shelf.Strconv.ParseIntPublic10
import Derived.Shelf.Strconv.ErrVarParseInt
import Derived.Shelf.Strings.Search1
import Derived.Shelf.Strings.Search2
import Derived.Shelf.Strings.Search3
import Derived.Shelf.Strings.Cut
import Derived.Shelf.Strings.Count
import Derived.Shelf.Strings.Shaped
import Derived.Shelf.Strings.Prefix
import Derived.Shelf.Strings.Split
import Derived.Shelf.Strings.SplitShaped
import Derived.Shelf.Unicode.Decode
import Derived.Shelf.Strings.Runes
import Derived.Shelf.Strings.RuneCount
import Derived.Shelf.Strings.AsciiSet
import Derived.Shelf.Strings.Explode
import Derived.Shelf.Bits.Mul64
import Derived.Shelf.Strings.Repeat
import Derived.Shelf.Unicode.DecodeSlow
import Derived.Shelf.Unicode.DecodeAny
import Derived.Shelf.Unicode.DecodeLast
import Derived.Shelf.Strings.BuilderCap
import Derived.Test.YtgekcnpfflhpkaaGreatDoorProg
import Derived.KernelRfl
set_option linter.unusedSimpArgs false
set_option linter.unusedVariables false
namespace Go.Proofs
abbrev synR := Lib.atoiAll []
open Go.Shelf
def Tryz.lays169_ren : Go.Shelf.Ren := ⟨fun | 169 => 38 | n => n, fun | 70 => 68 | 9 => 9 | 0 => 0 | 72 => 70 | 37 => 34 | 127 => 102 | 3 => 3 | 5 => 5 | n => n, fun | n => n⟩
theorem Tryz.lays169 : Go.Proofs.Lays.n169 Tryz.prog Tryz.lays169_ren := {
 mixed := by kernel_rfl
 f169 := Tryz.func38.trans (congrArg some (by kernel_rfl))
 t0 := Tryz.underlying0
 a0 := Tryz.isAgg0
 z0 := Tryz.sizeOf0
 v0 := Tryz.zeroValue0
 t3 := Tryz.underlying3
 a3 := Tryz.isAgg3
 z3 := Tryz.sizeOf3
 v3 := Tryz.zeroValue3
 t9 := Tryz.underlying9
 a9 := Tryz.isAgg9
 z9 := Tryz.sizeOf9
 v9 := Tryz.zeroValue9
 t37 := Tryz.underlying34
 a37 := Tryz.isAgg34
 z37 := Tryz.sizeOf34
 v37 := Tryz.zeroValue34
 t70 := Tryz.underlying68
 a70 := Tryz.isAgg68
 z70 := Tryz.sizeOf68
 v70 := Tryz.zeroValue68
 t72 := Tryz.underlying70
 a72 := Tryz.isAgg70
 z72 := Tryz.sizeOf70
 v72 := Tryz.zeroValue70
 t127 := Tryz.underlying102
 a127 := Tryz.isAgg102
 z127 := Tryz.sizeOf102
 v127 := Tryz.zeroValue102 }
theorem Tryz.Builder_Extra_169 : Builder.Extra Tryz.prog Tryz.lays169_ren := {
 sizeBuilder := by kernel_rfl
 liesBuilder := by kernel_rfl
 t5 := Tryz.underlying5
 a5 := Tryz.isAgg5
 z5 := Tryz.sizeOf5
 v5 := Tryz.zeroValue5
 infoByte := by kernel_rfl
 cellsByte := by kernel_rfl
 sizeByte := by kernel_rfl
 neB5 := by decide }
open Go.RowKit in
theorem Tryz.Builder_String (B b : Nat) (l : List UInt8) (w : World) (h : Lib.IsBuilder 70 5 B b (Lib.byteCells l) w) (h0 : l ≠ []) :
  Calls Tryz.prog 38 #[.pointer (some ⟨b, 0, none⟩)] w fun e w' => e = .returned (.string ⟨l.toArray⟩) ∧ Below B w w' := Any.Builder_String Tryz.lays169 Tryz.Builder_Extra_169 B b l w h h0
def Tryz.lays161_ren : Go.Shelf.Ren := ⟨fun | 161 => 47 | 231 => 85 | 227 => 40 | 233 => 86 | 235 => 87 | 228 => 74 | 197 => 102 | 151 => 76 | 260 => 126 | 152 => 108 | 137 => 113 | 119 => 131 | 224 => 129 | 225 => 128 | 217 => 127 | 266 => 146 | n => n, fun | 9 => 9 | 4 => 4 | 3 => 3 | 5 => 5 | 117 => 81 | 116 => 80 | 0 => 0 | 124 => 84 | 105 => 104 | 21 => 21 | 119 => 152 | 46 => 64 | 139 => 155 | 138 => 154 | n => n, fun | 3 => 1 | 4 => 2 | n => n⟩
theorem Tryz.lays161 : Go.Proofs.Lays.n161 Tryz.prog Tryz.lays161_ren := {
 mixed := by kernel_rfl
 f119 := Tryz.func131.trans (congrArg some (by kernel_rfl))
 f137 := Tryz.func113.trans (congrArg some (by kernel_rfl))
 f151 := Tryz.func76.trans (congrArg some (by kernel_rfl))
 f152 := Tryz.func108.trans (congrArg some (by kernel_rfl))
 f161 := Tryz.func47.trans (congrArg some (by kernel_rfl))
 f197 := Tryz.func102.trans (congrArg some (by kernel_rfl))
 f217 := Tryz.func127.trans (congrArg some (by kernel_rfl))
 f224 := Tryz.func129.trans (congrArg some (by kernel_rfl))
 f225 := Tryz.func128.trans (congrArg some (by kernel_rfl))
 f227 := Tryz.func40.trans (congrArg some (by kernel_rfl))
 f228 := Tryz.func74.trans (congrArg some (by kernel_rfl))
 f231 := Tryz.func85.trans (congrArg some (by kernel_rfl))
 f233 := Tryz.func86.trans (congrArg some (by kernel_rfl))
 f235 := Tryz.func87.trans (congrArg some (by kernel_rfl))
 f260 := Tryz.func126.trans (congrArg some (by kernel_rfl))
 f266 := Tryz.func146.trans (congrArg some (by kernel_rfl))
 t0 := Tryz.underlying0
 a0 := Tryz.isAgg0
 z0 := Tryz.sizeOf0
 v0 := Tryz.zeroValue0
 t3 := Tryz.underlying3
 a3 := Tryz.isAgg3
 z3 := Tryz.sizeOf3
 v3 := Tryz.zeroValue3
 t4 := Tryz.underlying4
 a4 := Tryz.isAgg4
 z4 := Tryz.sizeOf4
 v4 := Tryz.zeroValue4
 t5 := Tryz.underlying5
 a5 := Tryz.isAgg5
 z5 := Tryz.sizeOf5
 v5 := Tryz.zeroValue5
 t9 := Tryz.underlying9
 a9 := Tryz.isAgg9
 z9 := Tryz.sizeOf9
 v9 := Tryz.zeroValue9
 t21 := Tryz.underlying21
 a21 := Tryz.isAgg21
 z21 := Tryz.sizeOf21
 v21 := Tryz.zeroValue21
 t46 := Tryz.underlying64
 a46 := Tryz.isAgg64
 z46 := Tryz.sizeOf64
 v46 := Tryz.zeroValue64
 t105 := Tryz.underlying104
 a105 := Tryz.isAgg104
 z105 := Tryz.sizeOf104
 v105 := Tryz.zeroValue104
 t116 := Tryz.underlying80
 a116 := Tryz.isAgg80
 z116 := Tryz.sizeOf80
 t117 := Tryz.underlying81
 a117 := Tryz.isAgg81
 z117 := Tryz.sizeOf81
 v117 := Tryz.zeroValue81
 t119 := Tryz.underlying152
 a119 := Tryz.isAgg152
 z119 := Tryz.sizeOf152
 t124 := Tryz.underlying84
 a124 := Tryz.isAgg84
 z124 := Tryz.sizeOf84
 v124 := Tryz.zeroValue84
 t138 := Tryz.underlying154
 a138 := Tryz.isAgg154
 z138 := Tryz.sizeOf154
 v138 := Tryz.zeroValue154
 t139 := Tryz.underlying155
 a139 := Tryz.isAgg155
 z139 := Tryz.sizeOf155
 v139 := Tryz.zeroValue155
 g3 := by kernel_rfl
 g4 := by kernel_rfl }
open Go.RowKit in
theorem Tryz.strings_TrimLeft_one (s : ByteArray) (c : UInt8) (hc : c.toNat < 128) (w : World) :
  Calls Tryz.prog 47 #[.string s, .string ⟨#[c]⟩] w fun e w' => e = .returned (.string ⟨(Lib.trimLeftB s.data.toList c).toArray⟩) ∧ w' = w := Any.strings_TrimLeft_one Tryz.lays161 s c hc w
def Tryz.lays162_ren : Go.Shelf.Ren := ⟨fun | 162 => 18 | 232 => 39 | 227 => 40 | 234 => 41 | 236 => 42 | 228 => 74 | 271 => 75 | 151 => 76 | 120 => 107 | 197 => 102 | 152 => 108 | 260 => 126 | 137 => 113 | 119 => 131 | 224 => 129 | 225 => 128 | 217 => 127 | 266 => 146 | n => n, fun | 9 => 9 | 4 => 4 | 3 => 3 | 5 => 5 | 117 => 81 | 116 => 80 | 0 => 0 | 124 => 84 | 21 => 21 | 105 => 104 | 46 => 64 | 119 => 152 | 139 => 155 | 138 => 154 | n => n, fun | 3 => 1 | 4 => 2 | n => n⟩
theorem Tryz.lays162 : Go.Proofs.Lays.n162 Tryz.prog Tryz.lays162_ren := {
 mixed := by kernel_rfl
 f119 := Tryz.func131.trans (congrArg some (by kernel_rfl))
 f120 := Tryz.func107.trans (congrArg some (by kernel_rfl))
 f137 := Tryz.func113.trans (congrArg some (by kernel_rfl))
 f151 := Tryz.func76.trans (congrArg some (by kernel_rfl))
 f152 := Tryz.func108.trans (congrArg some (by kernel_rfl))
 f162 := Tryz.func18.trans (congrArg some (by kernel_rfl))
 f197 := Tryz.func102.trans (congrArg some (by kernel_rfl))
 f217 := Tryz.func127.trans (congrArg some (by kernel_rfl))
 f224 := Tryz.func129.trans (congrArg some (by kernel_rfl))
 f225 := Tryz.func128.trans (congrArg some (by kernel_rfl))
 f227 := Tryz.func40.trans (congrArg some (by kernel_rfl))
 f228 := Tryz.func74.trans (congrArg some (by kernel_rfl))
 f232 := Tryz.func39.trans (congrArg some (by kernel_rfl))
 f234 := Tryz.func41.trans (congrArg some (by kernel_rfl))
 f236 := Tryz.func42.trans (congrArg some (by kernel_rfl))
 f260 := Tryz.func126.trans (congrArg some (by kernel_rfl))
 f266 := Tryz.func146.trans (congrArg some (by kernel_rfl))
 f271 := Tryz.func75.trans (congrArg some (by kernel_rfl))
 t0 := Tryz.underlying0
 a0 := Tryz.isAgg0
 z0 := Tryz.sizeOf0
 v0 := Tryz.zeroValue0
 t3 := Tryz.underlying3
 a3 := Tryz.isAgg3
 z3 := Tryz.sizeOf3
 v3 := Tryz.zeroValue3
 t4 := Tryz.underlying4
 a4 := Tryz.isAgg4
 z4 := Tryz.sizeOf4
 v4 := Tryz.zeroValue4
 t5 := Tryz.underlying5
 a5 := Tryz.isAgg5
 z5 := Tryz.sizeOf5
 v5 := Tryz.zeroValue5
 t9 := Tryz.underlying9
 a9 := Tryz.isAgg9
 z9 := Tryz.sizeOf9
 v9 := Tryz.zeroValue9
 t21 := Tryz.underlying21
 a21 := Tryz.isAgg21
 z21 := Tryz.sizeOf21
 v21 := Tryz.zeroValue21
 t46 := Tryz.underlying64
 a46 := Tryz.isAgg64
 z46 := Tryz.sizeOf64
 v46 := Tryz.zeroValue64
 t105 := Tryz.underlying104
 a105 := Tryz.isAgg104
 z105 := Tryz.sizeOf104
 v105 := Tryz.zeroValue104
 t116 := Tryz.underlying80
 a116 := Tryz.isAgg80
 z116 := Tryz.sizeOf80
 t117 := Tryz.underlying81
 a117 := Tryz.isAgg81
 z117 := Tryz.sizeOf81
 v117 := Tryz.zeroValue81
 t119 := Tryz.underlying152
 a119 := Tryz.isAgg152
 z119 := Tryz.sizeOf152
 t124 := Tryz.underlying84
 a124 := Tryz.isAgg84
 z124 := Tryz.sizeOf84
 v124 := Tryz.zeroValue84
 t138 := Tryz.underlying154
 a138 := Tryz.isAgg154
 z138 := Tryz.sizeOf154
 v138 := Tryz.zeroValue154
 t139 := Tryz.underlying155
 a139 := Tryz.isAgg155
 z139 := Tryz.sizeOf155
 v139 := Tryz.zeroValue155
 g3 := by kernel_rfl
 g4 := by kernel_rfl }
open Go.RowKit in
theorem Tryz.strings_TrimRight_one (s : ByteArray) (c : UInt8) (hc : c.toNat < 128) (w : World) (hs : s.size ≤ 9223372036854775807) :
  Calls Tryz.prog 18 #[.string s, .string ⟨#[c]⟩] w fun e w' => e = .returned (.string ⟨(Lib.trimRightB s.data.toList c).toArray⟩) ∧ w' = w := Any.strings_TrimRight_one Tryz.lays162 s c hc w hs
def Tryz.lays137_ren : Go.Shelf.Ren := ⟨fun | 137 => 113 | 217 => 127 | 266 => 146 | n => n, fun | 9 => 9 | 5 => 5 | 3 => 3 | n => n, fun | n => n⟩
theorem Tryz.lays137 : Go.Proofs.Lays.n137 Tryz.prog Tryz.lays137_ren := {
 mixed := by kernel_rfl
 f137 := Tryz.func113.trans (congrArg some (by kernel_rfl))
 f217 := Tryz.func127.trans (congrArg some (by kernel_rfl))
 f266 := Tryz.func146.trans (congrArg some (by kernel_rfl))
 t3 := Tryz.underlying3
 a3 := Tryz.isAgg3
 z3 := Tryz.sizeOf3
 v3 := Tryz.zeroValue3
 t5 := Tryz.underlying5
 a5 := Tryz.isAgg5
 z5 := Tryz.sizeOf5
 v5 := Tryz.zeroValue5
 t9 := Tryz.underlying9
 a9 := Tryz.isAgg9
 z9 := Tryz.sizeOf9
 v9 := Tryz.zeroValue9 }
open Go.RowKit in
theorem Tryz.strings_IndexByte (s : ByteArray) (c : Int) (w : World) :
  Calls Tryz.prog 113 #[.string s, .int .u8 c] w fun e w' => e = .returned (.int .i64 (Lib.indexByte s.data.toList c.toNat.toUInt8)) ∧ w' = w := Any.strings_IndexByte Tryz.lays137 s c w
open Go.RowKit in
theorem Tryz.Builder_String_any_f (B b : Nat) (l : List UInt8) (w : World) (h : Lib.IsBuilderF 70 5 B b (Lib.byteCells l) w) (hBw : B ≤ w.heap.size) :
  Calls Tryz.prog 38 #[.pointer (some ⟨b, 0, none⟩)] w fun e w' => e = .returned (.string ⟨l.toArray⟩) ∧ (Lib.IsBuilderF 70 5 B b (Lib.byteCells l) w' ∧ Below B w w') := Any.Builder_String_any_f Tryz.lays169 Tryz.Builder_Extra_169 B b l w h hBw
def Tryz.laysC174_ren : Go.Shelf.Ren := ⟨fun | 174 => 144 | 247 => 158 | 245 => 159 | 287 => 165 | 279 => 166 | 280 => 167 | 281 => 168 | 282 => 169 | 321 => 170 | 322 => 171 | 316 => 172 | 171 => 174 | 205 => 173 | 243 => 175 | 246 => 110 | 283 => 132 | 284 => 133 | 285 => 134 | 286 => 135 | 129 => 149 | 317 => 148 | 318 => 150 | 319 => 151 | 320 => 152 | 337 => 160 | 338 => 161 | n => n, fun | 9 => 9 | 3 => 3 | 2 => 2 | 75 => 73 | 85 => 149 | 4 => 4 | 167 => 165 | 5 => 5 | 53 => 99 | 175 => 166 | 46 => 64 | 168 => 168 | 37 => 34 | 0 => 0 | 210 => 175 | 21 => 21 | 127 => 102 | 145 => 179 | 143 => 177 | 171 => 137 | 173 => 140 | 212 => 158 | 51 => 96 | 20 => 20 | 213 => 159 | 232 => 171 | 233 => 172 | 80 => 77 | n => n, fun | 15 => 6 | 16 => 7 | 17 => 3 | 18 => 4 | 19 => 5 | n => n⟩
theorem Tryz.laysC174 : Go.Proofs.LaysC.n174 Tryz.prog Tryz.laysC174_ren := {
 mixed := by kernel_rfl
 f129 := Tryz.func149.trans (congrArg some (by kernel_rfl))
 f171 := Tryz.func174.trans (congrArg some (by kernel_rfl))
 f174 := Tryz.func144.trans (congrArg some (by kernel_rfl))
 f205 := Tryz.func173.trans (congrArg some (by kernel_rfl))
 f243 := Tryz.func175.trans (congrArg some (by kernel_rfl))
 f245 := Tryz.func159.trans (congrArg some (by kernel_rfl))
 f246 := Tryz.func110.trans (congrArg some (by kernel_rfl))
 f247 := Tryz.func158.trans (congrArg some (by kernel_rfl))
 f279 := Tryz.func166.trans (congrArg some (by kernel_rfl))
 f280 := Tryz.func167.trans (congrArg some (by kernel_rfl))
 f281 := Tryz.func168.trans (congrArg some (by kernel_rfl))
 f282 := Tryz.func169.trans (congrArg some (by kernel_rfl))
 f283 := Tryz.func132.trans (congrArg some (by kernel_rfl))
 f284 := Tryz.func133.trans (congrArg some (by kernel_rfl))
 f285 := Tryz.func134.trans (congrArg some (by kernel_rfl))
 f286 := Tryz.func135.trans (congrArg some (by kernel_rfl))
 f287 := Tryz.func165.trans (congrArg some (by kernel_rfl))
 f316 := Tryz.func172.trans (congrArg some (by kernel_rfl))
 f317 := Tryz.func148.trans (congrArg some (by kernel_rfl))
 f318 := Tryz.func150.trans (congrArg some (by kernel_rfl))
 f319 := Tryz.func151.trans (congrArg some (by kernel_rfl))
 f320 := Tryz.func152.trans (congrArg some (by kernel_rfl))
 f321 := Tryz.func170.trans (congrArg some (by kernel_rfl))
 f322 := Tryz.func171.trans (congrArg some (by kernel_rfl))
 f337 := Tryz.func160.trans (congrArg some (by kernel_rfl))
 f338 := Tryz.func161.trans (congrArg some (by kernel_rfl))
 t0 := Tryz.underlying0
 a0 := Tryz.isAgg0
 z0 := Tryz.sizeOf0
 v0 := Tryz.zeroValue0
 t2 := Tryz.underlying2
 a2 := Tryz.isAgg2
 z2 := Tryz.sizeOf2
 v2 := Tryz.zeroValue2
 t3 := Tryz.underlying3
 a3 := Tryz.isAgg3
 z3 := Tryz.sizeOf3
 v3 := Tryz.zeroValue3
 t4 := Tryz.underlying4
 a4 := Tryz.isAgg4
 z4 := Tryz.sizeOf4
 v4 := Tryz.zeroValue4
 t5 := Tryz.underlying5
 a5 := Tryz.isAgg5
 z5 := Tryz.sizeOf5
 v5 := Tryz.zeroValue5
 t9 := Tryz.underlying9
 a9 := Tryz.isAgg9
 z9 := Tryz.sizeOf9
 v9 := Tryz.zeroValue9
 t20 := Tryz.underlying20
 a20 := Tryz.isAgg20
 z20 := Tryz.sizeOf20
 v20 := Tryz.zeroValue20
 t21 := Tryz.underlying21
 a21 := Tryz.isAgg21
 z21 := Tryz.sizeOf21
 v21 := Tryz.zeroValue21
 t37 := Tryz.underlying34
 a37 := Tryz.isAgg34
 z37 := Tryz.sizeOf34
 v37 := Tryz.zeroValue34
 t46 := Tryz.underlying64
 a46 := Tryz.isAgg64
 z46 := Tryz.sizeOf64
 v46 := Tryz.zeroValue64
 t51 := Tryz.underlying96
 a51 := Tryz.isAgg96
 z51 := Tryz.sizeOf96
 v51 := Tryz.zeroValue96
 t53 := Tryz.underlying99
 a53 := Tryz.isAgg99
 z53 := Tryz.sizeOf99
 v53 := Tryz.zeroValue99
 t75 := Tryz.underlying73
 a75 := Tryz.isAgg73
 z75 := Tryz.sizeOf73
 v75 := Tryz.zeroValue73
 t85 := Tryz.underlying149
 a85 := Tryz.isAgg149
 z85 := Tryz.sizeOf149
 v85 := Tryz.zeroValue149
 t127 := Tryz.underlying102
 a127 := Tryz.isAgg102
 z127 := Tryz.sizeOf102
 v127 := Tryz.zeroValue102
 t143 := Tryz.underlying177
 a143 := Tryz.isAgg177
 z143 := Tryz.sizeOf177
 v143 := Tryz.zeroValue177
 t145 := Tryz.underlying179
 a145 := Tryz.isAgg179
 z145 := Tryz.sizeOf179
 v145 := Tryz.zeroValue179
 t167 := Tryz.underlying165
 a167 := Tryz.isAgg165
 z167 := Tryz.sizeOf165
 v167 := Tryz.zeroValue165
 t168 := Tryz.underlying168
 a168 := Tryz.isAgg168
 z168 := Tryz.sizeOf168
 v168 := Tryz.zeroValue168
 t171 := Tryz.underlying137
 a171 := Tryz.isAgg137
 z171 := Tryz.sizeOf137
 v171 := Tryz.zeroValue137
 t173 := Tryz.underlying140
 a173 := Tryz.isAgg140
 z173 := Tryz.sizeOf140
 v173 := Tryz.zeroValue140
 t175 := Tryz.underlying166
 a175 := Tryz.isAgg166
 z175 := Tryz.sizeOf166
 v175 := Tryz.zeroValue166
 t210 := Tryz.underlying175
 a210 := Tryz.isAgg175
 z210 := Tryz.sizeOf175
 v210 := Tryz.zeroValue175
 t212 := Tryz.underlying158
 a212 := Tryz.isAgg158
 z212 := Tryz.sizeOf158
 v212 := Tryz.zeroValue158
 t213 := Tryz.underlying159
 a213 := Tryz.isAgg159
 z213 := Tryz.sizeOf159
 t232 := Tryz.underlying171
 a232 := Tryz.isAgg171
 z232 := Tryz.sizeOf171
 v232 := Tryz.zeroValue171
 t233 := Tryz.underlying172
 a233 := Tryz.isAgg172
 z233 := Tryz.sizeOf172
 v233 := Tryz.zeroValue172
 g15 := by kernel_rfl
 g16 := by kernel_rfl
 g17 := by kernel_rfl
 g18 := by kernel_rfl
 g19 := by kernel_rfl
 t80 := Tryz.underlying77
 a80 := Tryz.isAgg77
 z80 := Tryz.sizeOf77
 v80 := Tryz.zeroValue77
 i0 := by kernel_rfl
 i2 := by kernel_rfl
 i3 := by kernel_rfl
 i4 := by kernel_rfl
 i5 := by kernel_rfl
 i9 := by kernel_rfl
 i20 := by kernel_rfl
 i21 := by kernel_rfl
 i37 := by kernel_rfl
 i46 := by kernel_rfl
 i51 := by kernel_rfl
 i53 := by kernel_rfl
 i75 := by kernel_rfl
 i80 := by kernel_rfl
 i85 := by kernel_rfl
 i127 := by kernel_rfl
 i143 := by kernel_rfl
 i145 := by kernel_rfl
 i167 := by kernel_rfl
 i168 := by kernel_rfl
 i171 := by kernel_rfl
 i173 := by kernel_rfl
 i175 := by kernel_rfl
 i210 := by kernel_rfl
 i212 := by kernel_rfl
 i232 := by kernel_rfl
 i233 := by kernel_rfl
 m15 := by kernel_rfl
 m16 := by kernel_rfl
 m17 := by kernel_rfl
 m18 := by kernel_rfl
 m19 := by kernel_rfl
 c0 := by kernel_rfl
 c2 := by kernel_rfl
 c3 := by kernel_rfl
 c4 := by kernel_rfl
 c5 := by kernel_rfl
 c9 := by kernel_rfl
 c20 := by kernel_rfl
 c21 := by kernel_rfl
 c37 := by kernel_rfl
 c46 := by kernel_rfl
 c51 := by kernel_rfl
 c53 := by kernel_rfl
 c75 := by kernel_rfl
 c80 := by kernel_rfl
 c85 := by kernel_rfl
 c127 := by kernel_rfl
 c143 := by kernel_rfl
 c145 := by kernel_rfl
 c167 := by kernel_rfl
 c168 := by kernel_rfl
 c171 := by kernel_rfl
 c173 := by kernel_rfl
 c175 := by kernel_rfl
 c210 := by kernel_rfl
 c212 := by kernel_rfl
 c213 := by kernel_rfl
 c232 := by kernel_rfl
 c233 := by kernel_rfl }
open Go.RowKit in
theorem Tryz.strconv_ParseInt_10_at64_ok (s : ByteArray) (hmax : s.size ≤ 9223372036854775806) (v : Int) (h : Lib.parseIntB 64 s.data.toList = .ok v) (w : World) :
  Calls Tryz.prog 144 #[.string s, .int .i64 10, .int .i64 64] w fun e w' => e = .returned (.tuple #[.int .i64 v, .nilIface]) ∧ (w' = w ∨ ∃ t, w' = Lib.bytesWorld w 5 t) := Any.strconv_ParseInt_10_at64_ok Tryz.laysC174 s hmax v h w
open Go.RowKit in
theorem Tryz.strconv_ParseInt_10_at64_syntax (s : ByteArray) (hlim : s.size ≤ 281474976710656) (h : Lib.parseIntB 64 s.data.toList = synR) (ev : Value) (w : World) (hv : w.cell? ⟨6, 0, none⟩ = some ev) (hev : ev = .nilIface ∨ ∃ te pe, ev = .iface te pe) :
  Calls Tryz.prog 144 #[.string s, .int .i64 10, .int .i64 64] w fun e w' => ∃ N, e = .returned (.tuple #[.int .i64 (0), .iface 168 (.pointer (some ⟨N, 0, none⟩))]) ∧ w.heap.size ≤ N ∧ w'.heap[N]? = some (.cells #[.string ⟨#[80, 97, 114, 115, 101, 73, 110, 116]⟩, .string s, ev] 175 (0, 0)) ∧ Below w.heap.size w w' := Any.strconv_ParseInt_10_at64_syntax Tryz.laysC174 s hlim h ev w hv hev
open Go.RowKit in
theorem Tryz.strconv_ParseInt_10_at64_range (s : ByteArray) (hlim : s.size ≤ 281474976710656) (h : Lib.parseIntB 64 s.data.toList = .range) (ev : Value) (w : World) (hv : w.cell? ⟨7, 0, none⟩ = some ev) (hev : ev = .nilIface ∨ ∃ te pe, ev = .iface te pe) :
  Calls Tryz.prog 144 #[.string s, .int .i64 10, .int .i64 64] w fun e w' => ∃ N, e = .returned (.tuple #[.int .i64 (Lib.intSat 64 s.data.toList), .iface 168 (.pointer (some ⟨N, 0, none⟩))]) ∧ w.heap.size ≤ N ∧ w'.heap[N]? = some (.cells #[.string ⟨#[80, 97, 114, 115, 101, 73, 110, 116]⟩, .string s, ev] 175 (0, 0)) ∧ Below w.heap.size w w' := Any.strconv_ParseInt_10_at64_range Tryz.laysC174 s hlim h ev w hv hev
def Tryz.lays219_ren : Go.Shelf.Ren := ⟨fun | 219 => 104 | 217 => 127 | 225 => 128 | 224 => 129 | 267 => 130 | 266 => 146 | 314 => 147 | n => n, fun | 9 => 9 | 3 => 3 | 4 => 4 | 5 => 5 | 46 => 64 | 146 => 97 | 51 => 96 | n => n, fun | 1 => 0 | n => n⟩
theorem Tryz.lays219 : Go.Proofs.Lays.n219 Tryz.prog Tryz.lays219_ren := {
 mixed := by kernel_rfl
 f217 := Tryz.func127.trans (congrArg some (by kernel_rfl))
 f219 := Tryz.func104.trans (congrArg some (by kernel_rfl))
 f224 := Tryz.func129.trans (congrArg some (by kernel_rfl))
 f225 := Tryz.func128.trans (congrArg some (by kernel_rfl))
 f266 := Tryz.func146.trans (congrArg some (by kernel_rfl))
 f267 := Tryz.func130.trans (congrArg some (by kernel_rfl))
 f314 := Tryz.func147.trans (congrArg some (by kernel_rfl))
 t3 := Tryz.underlying3
 a3 := Tryz.isAgg3
 z3 := Tryz.sizeOf3
 v3 := Tryz.zeroValue3
 t4 := Tryz.underlying4
 a4 := Tryz.isAgg4
 z4 := Tryz.sizeOf4
 v4 := Tryz.zeroValue4
 t5 := Tryz.underlying5
 a5 := Tryz.isAgg5
 z5 := Tryz.sizeOf5
 v5 := Tryz.zeroValue5
 t9 := Tryz.underlying9
 a9 := Tryz.isAgg9
 z9 := Tryz.sizeOf9
 v9 := Tryz.zeroValue9
 t46 := Tryz.underlying64
 a46 := Tryz.isAgg64
 z46 := Tryz.sizeOf64
 v46 := Tryz.zeroValue64
 t51 := Tryz.underlying96
 a51 := Tryz.isAgg96
 z51 := Tryz.sizeOf96
 v51 := Tryz.zeroValue96
 t146 := Tryz.underlying97
 a146 := Tryz.isAgg97
 z146 := Tryz.sizeOf97
 v146 := Tryz.zeroValue97
 g1 := by kernel_rfl }
open Go.RowKit Go.Lib in
theorem Tryz.stringslite_Index_one (s : ByteArray) (c : UInt8) (w : World) :
  Calls Tryz.prog 104 #[.string s, .string ⟨#[c]⟩] w fun e w' => e = .returned (.int .i64 (Lib.indexByte s.data.toList c)) ∧ w' = w := Any.stringslite_Index_one Tryz.lays219 s c w
def Tryz.lays143_ren : Go.Shelf.Ren := ⟨fun | 143 => 67 | 219 => 104 | 217 => 127 | 225 => 128 | 224 => 129 | 267 => 130 | 266 => 146 | 314 => 147 | n => n, fun | 9 => 9 | 3 => 3 | 4 => 4 | 5 => 5 | 46 => 64 | 146 => 97 | 51 => 96 | n => n, fun | 1 => 0 | n => n⟩
theorem Tryz.lays143 : Go.Proofs.Lays.n143 Tryz.prog Tryz.lays143_ren := {
 mixed := by kernel_rfl
 f143 := Tryz.func67.trans (congrArg some (by kernel_rfl))
 f217 := Tryz.func127.trans (congrArg some (by kernel_rfl))
 f219 := Tryz.func104.trans (congrArg some (by kernel_rfl))
 f224 := Tryz.func129.trans (congrArg some (by kernel_rfl))
 f225 := Tryz.func128.trans (congrArg some (by kernel_rfl))
 f266 := Tryz.func146.trans (congrArg some (by kernel_rfl))
 f267 := Tryz.func130.trans (congrArg some (by kernel_rfl))
 f314 := Tryz.func147.trans (congrArg some (by kernel_rfl))
 t3 := Tryz.underlying3
 a3 := Tryz.isAgg3
 z3 := Tryz.sizeOf3
 v3 := Tryz.zeroValue3
 t4 := Tryz.underlying4
 a4 := Tryz.isAgg4
 z4 := Tryz.sizeOf4
 v4 := Tryz.zeroValue4
 t5 := Tryz.underlying5
 a5 := Tryz.isAgg5
 z5 := Tryz.sizeOf5
 v5 := Tryz.zeroValue5
 t9 := Tryz.underlying9
 a9 := Tryz.isAgg9
 z9 := Tryz.sizeOf9
 v9 := Tryz.zeroValue9
 t46 := Tryz.underlying64
 a46 := Tryz.isAgg64
 z46 := Tryz.sizeOf64
 v46 := Tryz.zeroValue64
 t51 := Tryz.underlying96
 a51 := Tryz.isAgg96
 z51 := Tryz.sizeOf96
 v51 := Tryz.zeroValue96
 t146 := Tryz.underlying97
 a146 := Tryz.isAgg97
 z146 := Tryz.sizeOf97
 v146 := Tryz.zeroValue97
 g1 := by kernel_rfl }
open Go.RowKit Go.Lib in
theorem Tryz.strings_Index_one (s : ByteArray) (c : UInt8) (w : World) :
  Calls Tryz.prog 67 #[.string s, .string ⟨#[c]⟩] w fun e w' => e = .returned (.int .i64 (Lib.indexByte s.data.toList c)) ∧ w' = w := Any.strings_Index_one Tryz.lays143 s c w
open Go.RowKit Go.Lib in
theorem Tryz.strings_Index (s sub : ByteArray) (m : Int) (w : World) (hs : s.size < 4294967281) (hm : w.cell? ⟨0, 0, none⟩ = some (.int .i64 m)) :
  Calls Tryz.prog 67 #[.string s, .string sub] w fun e w' => e = .returned (.int .i64 (Lib.index s.data.toList sub.data.toList)) ∧ w' = w := Any.strings_Index Tryz.lays143 s sub m w hs hm
def Tryz.lays144_ren : Go.Shelf.Ren := ⟨fun | 144 => 124 | 143 => 67 | 219 => 104 | 217 => 127 | 225 => 128 | 224 => 129 | 267 => 130 | 266 => 146 | 314 => 147 | n => n, fun | 9 => 9 | 4 => 4 | 3 => 3 | 5 => 5 | 46 => 64 | 146 => 97 | 51 => 96 | n => n, fun | 1 => 0 | n => n⟩
theorem Tryz.lays144 : Go.Proofs.Lays.n144 Tryz.prog Tryz.lays144_ren := {
 mixed := by kernel_rfl
 f143 := Tryz.func67.trans (congrArg some (by kernel_rfl))
 f144 := Tryz.func124.trans (congrArg some (by kernel_rfl))
 f217 := Tryz.func127.trans (congrArg some (by kernel_rfl))
 f219 := Tryz.func104.trans (congrArg some (by kernel_rfl))
 f224 := Tryz.func129.trans (congrArg some (by kernel_rfl))
 f225 := Tryz.func128.trans (congrArg some (by kernel_rfl))
 f266 := Tryz.func146.trans (congrArg some (by kernel_rfl))
 f267 := Tryz.func130.trans (congrArg some (by kernel_rfl))
 f314 := Tryz.func147.trans (congrArg some (by kernel_rfl))
 t3 := Tryz.underlying3
 a3 := Tryz.isAgg3
 z3 := Tryz.sizeOf3
 v3 := Tryz.zeroValue3
 t4 := Tryz.underlying4
 a4 := Tryz.isAgg4
 z4 := Tryz.sizeOf4
 v4 := Tryz.zeroValue4
 t5 := Tryz.underlying5
 a5 := Tryz.isAgg5
 z5 := Tryz.sizeOf5
 v5 := Tryz.zeroValue5
 t9 := Tryz.underlying9
 a9 := Tryz.isAgg9
 z9 := Tryz.sizeOf9
 v9 := Tryz.zeroValue9
 t46 := Tryz.underlying64
 a46 := Tryz.isAgg64
 z46 := Tryz.sizeOf64
 v46 := Tryz.zeroValue64
 t51 := Tryz.underlying96
 a51 := Tryz.isAgg96
 z51 := Tryz.sizeOf96
 v51 := Tryz.zeroValue96
 t146 := Tryz.underlying97
 a146 := Tryz.isAgg97
 z146 := Tryz.sizeOf97
 v146 := Tryz.zeroValue97
 g1 := by kernel_rfl }
open Go.RowKit Go.Lib in
theorem Tryz.strings_Contains_one (s : ByteArray) (c : UInt8) (w : World) :
  Calls Tryz.prog 124 #[.string s, .string ⟨#[c]⟩] w fun e w' => e = .returned (.bool (decide (0 ≤ Lib.indexByte s.data.toList c))) ∧ w' = w := Any.strings_Contains_one Tryz.lays144 s c w
open Go.RowKit Go.Lib in
theorem Tryz.strings_Contains (s sub : ByteArray) (m : Int) (w : World) (hs : s.size < 4294967281) (hm : w.cell? ⟨0, 0, none⟩ = some (.int .i64 m)) :
  Calls Tryz.prog 124 #[.string s, .string sub] w fun e w' => e = .returned (.bool (Lib.contains s.data.toList sub.data.toList)) ∧ w' = w := Any.strings_Contains Tryz.lays144 s sub m w hs hm
def Tryz.lays138_ren : Go.Shelf.Ren := ⟨fun | 138 => 66 | 195 => 101 | 218 => 103 | 143 => 67 | 219 => 104 | 217 => 127 | 225 => 128 | 224 => 129 | 267 => 130 | 266 => 146 | 314 => 147 | n => n, fun | 9 => 9 | 3 => 3 | 4 => 4 | 5 => 5 | 0 => 0 | 46 => 64 | 146 => 97 | 51 => 96 | n => n, fun | 1 => 0 | n => n⟩
theorem Tryz.lays138 : Go.Proofs.Lays.n138 Tryz.prog Tryz.lays138_ren := {
 mixed := by kernel_rfl
 f138 := Tryz.func66.trans (congrArg some (by kernel_rfl))
 f143 := Tryz.func67.trans (congrArg some (by kernel_rfl))
 f195 := Tryz.func101.trans (congrArg some (by kernel_rfl))
 f217 := Tryz.func127.trans (congrArg some (by kernel_rfl))
 f218 := Tryz.func103.trans (congrArg some (by kernel_rfl))
 f219 := Tryz.func104.trans (congrArg some (by kernel_rfl))
 f224 := Tryz.func129.trans (congrArg some (by kernel_rfl))
 f225 := Tryz.func128.trans (congrArg some (by kernel_rfl))
 f266 := Tryz.func146.trans (congrArg some (by kernel_rfl))
 f267 := Tryz.func130.trans (congrArg some (by kernel_rfl))
 f314 := Tryz.func147.trans (congrArg some (by kernel_rfl))
 t0 := Tryz.underlying0
 a0 := Tryz.isAgg0
 z0 := Tryz.sizeOf0
 v0 := Tryz.zeroValue0
 t3 := Tryz.underlying3
 a3 := Tryz.isAgg3
 z3 := Tryz.sizeOf3
 v3 := Tryz.zeroValue3
 t4 := Tryz.underlying4
 a4 := Tryz.isAgg4
 z4 := Tryz.sizeOf4
 v4 := Tryz.zeroValue4
 t5 := Tryz.underlying5
 a5 := Tryz.isAgg5
 z5 := Tryz.sizeOf5
 v5 := Tryz.zeroValue5
 t9 := Tryz.underlying9
 a9 := Tryz.isAgg9
 z9 := Tryz.sizeOf9
 v9 := Tryz.zeroValue9
 t46 := Tryz.underlying64
 a46 := Tryz.isAgg64
 z46 := Tryz.sizeOf64
 v46 := Tryz.zeroValue64
 t51 := Tryz.underlying96
 a51 := Tryz.isAgg96
 z51 := Tryz.sizeOf96
 v51 := Tryz.zeroValue96
 t146 := Tryz.underlying97
 a146 := Tryz.isAgg97
 z146 := Tryz.sizeOf97
 v146 := Tryz.zeroValue97
 g1 := by kernel_rfl }
open Go.RowKit Go.Lib in
theorem Tryz.strings_Count_one (s : ByteArray) (c : UInt8) (w : World) :
  Calls Tryz.prog 66 #[.string s, .string ⟨#[c]⟩] w fun e w' => e = .returned (.int .i64 (Lib.countByte s.data.toList c)) ∧ w' = w := Any.strings_Count_one Tryz.lays138 s c w
def Tryz.lays100_ren : Go.Shelf.Ren := ⟨fun | 100 => 88 | 207 => 68 | n => n, fun | 9 => 9 | 4 => 4 | 3 => 3 | n => n, fun | n => n⟩
theorem Tryz.lays100 : Go.Proofs.Lays.n100 Tryz.prog Tryz.lays100_ren := {
 mixed := by kernel_rfl
 f100 := Tryz.func88.trans (congrArg some (by kernel_rfl))
 f207 := Tryz.func68.trans (congrArg some (by kernel_rfl))
 t3 := Tryz.underlying3
 a3 := Tryz.isAgg3
 z3 := Tryz.sizeOf3
 v3 := Tryz.zeroValue3
 t4 := Tryz.underlying4
 a4 := Tryz.isAgg4
 z4 := Tryz.sizeOf4
 v4 := Tryz.zeroValue4
 t9 := Tryz.underlying9
 a9 := Tryz.isAgg9
 z9 := Tryz.sizeOf9
 v9 := Tryz.zeroValue9 }
open Go.RowKit Go.Lib in
theorem Tryz.strings_HasSuffix (s p : ByteArray) (w : World) (hs : s.size ≤ 9223372036854775807) :
  Calls Tryz.prog 88 #[.string s, .string p] w fun e w' => e = .returned (.bool (Lib.hasSuffix s.data.toList p.data.toList)) ∧ w' = w := Any.strings_HasSuffix Tryz.lays100 s p w hs
def Tryz.lays221_ren : Go.Shelf.Ren := ⟨fun | 221 => 31 | 268 => 65 | 138 => 66 | 143 => 67 | 195 => 101 | 197 => 102 | 218 => 103 | 219 => 104 | 260 => 126 | 217 => 127 | 225 => 128 | 224 => 129 | 267 => 130 | 266 => 146 | 314 => 147 | n => n, fun | 9 => 9 | 3 => 3 | 31 => 37 | 4 => 4 | 0 => 0 | 105 => 104 | 21 => 21 | 5 => 5 | 46 => 64 | 119 => 152 | 139 => 155 | 138 => 154 | 146 => 97 | 51 => 96 | n => n, fun | 1 => 0 | 3 => 1 | 4 => 2 | n => n⟩
theorem Tryz.lays221 : Go.Proofs.Lays.n221 Tryz.prog Tryz.lays221_ren := {
 mixed := by kernel_rfl
 f138 := Tryz.func66.trans (congrArg some (by kernel_rfl))
 f143 := Tryz.func67.trans (congrArg some (by kernel_rfl))
 f195 := Tryz.func101.trans (congrArg some (by kernel_rfl))
 f197 := Tryz.func102.trans (congrArg some (by kernel_rfl))
 f217 := Tryz.func127.trans (congrArg some (by kernel_rfl))
 f218 := Tryz.func103.trans (congrArg some (by kernel_rfl))
 f219 := Tryz.func104.trans (congrArg some (by kernel_rfl))
 f221 := Tryz.func31.trans (congrArg some (by kernel_rfl))
 f224 := Tryz.func129.trans (congrArg some (by kernel_rfl))
 f225 := Tryz.func128.trans (congrArg some (by kernel_rfl))
 f260 := Tryz.func126.trans (congrArg some (by kernel_rfl))
 f266 := Tryz.func146.trans (congrArg some (by kernel_rfl))
 f267 := Tryz.func130.trans (congrArg some (by kernel_rfl))
 f268 := Tryz.func65.trans (congrArg some (by kernel_rfl))
 f314 := Tryz.func147.trans (congrArg some (by kernel_rfl))
 t0 := Tryz.underlying0
 a0 := Tryz.isAgg0
 z0 := Tryz.sizeOf0
 v0 := Tryz.zeroValue0
 t3 := Tryz.underlying3
 a3 := Tryz.isAgg3
 z3 := Tryz.sizeOf3
 v3 := Tryz.zeroValue3
 t4 := Tryz.underlying4
 a4 := Tryz.isAgg4
 z4 := Tryz.sizeOf4
 v4 := Tryz.zeroValue4
 t5 := Tryz.underlying5
 a5 := Tryz.isAgg5
 z5 := Tryz.sizeOf5
 v5 := Tryz.zeroValue5
 t9 := Tryz.underlying9
 a9 := Tryz.isAgg9
 z9 := Tryz.sizeOf9
 v9 := Tryz.zeroValue9
 t21 := Tryz.underlying21
 a21 := Tryz.isAgg21
 z21 := Tryz.sizeOf21
 v21 := Tryz.zeroValue21
 t31 := Tryz.underlying37
 a31 := Tryz.isAgg37
 z31 := Tryz.sizeOf37
 v31 := Tryz.zeroValue37
 t46 := Tryz.underlying64
 a46 := Tryz.isAgg64
 z46 := Tryz.sizeOf64
 v46 := Tryz.zeroValue64
 t51 := Tryz.underlying96
 a51 := Tryz.isAgg96
 z51 := Tryz.sizeOf96
 v51 := Tryz.zeroValue96
 t105 := Tryz.underlying104
 a105 := Tryz.isAgg104
 z105 := Tryz.sizeOf104
 v105 := Tryz.zeroValue104
 t119 := Tryz.underlying152
 a119 := Tryz.isAgg152
 z119 := Tryz.sizeOf152
 t138 := Tryz.underlying154
 a138 := Tryz.isAgg154
 z138 := Tryz.sizeOf154
 v138 := Tryz.zeroValue154
 t139 := Tryz.underlying155
 a139 := Tryz.isAgg155
 z139 := Tryz.sizeOf155
 v139 := Tryz.zeroValue155
 t146 := Tryz.underlying97
 a146 := Tryz.isAgg97
 z146 := Tryz.sizeOf97
 v146 := Tryz.zeroValue97
 g1 := by kernel_rfl
 g3 := by kernel_rfl
 g4 := by kernel_rfl }
def Tryz.lays105_ren : Go.Shelf.Ren := ⟨fun | 105 => 17 | 212 => 33 | 99 => 34 | 165 => 35 | 166 => 36 | 170 => 37 | 169 => 38 | 263 => 69 | 264 => 70 | 206 => 71 | 240 => 72 | 241 => 73 | 276 => 105 | 277 => 106 | n => n, fun | 9 => 9 | 3 => 3 | 4 => 4 | 20 => 20 | 0 => 0 | 46 => 64 | 109 => 65 | 5 => 5 | 72 => 70 | 76 => 74 | 51 => 96 | 146 => 97 | 53 => 99 | 148 => 100 | 70 => 68 | 37 => 34 | 75 => 73 | 127 => 102 | 164 => 122 | 80 => 77 | n => n, fun | n => n⟩
theorem Tryz.lays105 : Go.Proofs.Lays.n105 Tryz.prog Tryz.lays105_ren := {
 mixed := by kernel_rfl
 f99 := Tryz.func34.trans (congrArg some (by kernel_rfl))
 f105 := Tryz.func17.trans (congrArg some (by kernel_rfl))
 f165 := Tryz.func35.trans (congrArg some (by kernel_rfl))
 f166 := Tryz.func36.trans (congrArg some (by kernel_rfl))
 f169 := Tryz.func38.trans (congrArg some (by kernel_rfl))
 f170 := Tryz.func37.trans (congrArg some (by kernel_rfl))
 f206 := Tryz.func71.trans (congrArg some (by kernel_rfl))
 f212 := Tryz.func33.trans (congrArg some (by kernel_rfl))
 f240 := Tryz.func72.trans (congrArg some (by kernel_rfl))
 f241 := Tryz.func73.trans (congrArg some (by kernel_rfl))
 f263 := Tryz.func69.trans (congrArg some (by kernel_rfl))
 f264 := Tryz.func70.trans (congrArg some (by kernel_rfl))
 f276 := Tryz.func105.trans (congrArg some (by kernel_rfl))
 f277 := Tryz.func106.trans (congrArg some (by kernel_rfl))
 t0 := Tryz.underlying0
 a0 := Tryz.isAgg0
 z0 := Tryz.sizeOf0
 v0 := Tryz.zeroValue0
 t3 := Tryz.underlying3
 a3 := Tryz.isAgg3
 z3 := Tryz.sizeOf3
 v3 := Tryz.zeroValue3
 t4 := Tryz.underlying4
 a4 := Tryz.isAgg4
 z4 := Tryz.sizeOf4
 v4 := Tryz.zeroValue4
 t5 := Tryz.underlying5
 a5 := Tryz.isAgg5
 z5 := Tryz.sizeOf5
 v5 := Tryz.zeroValue5
 t9 := Tryz.underlying9
 a9 := Tryz.isAgg9
 z9 := Tryz.sizeOf9
 v9 := Tryz.zeroValue9
 t20 := Tryz.underlying20
 a20 := Tryz.isAgg20
 z20 := Tryz.sizeOf20
 v20 := Tryz.zeroValue20
 t37 := Tryz.underlying34
 a37 := Tryz.isAgg34
 z37 := Tryz.sizeOf34
 v37 := Tryz.zeroValue34
 t46 := Tryz.underlying64
 a46 := Tryz.isAgg64
 z46 := Tryz.sizeOf64
 v46 := Tryz.zeroValue64
 t51 := Tryz.underlying96
 a51 := Tryz.isAgg96
 z51 := Tryz.sizeOf96
 v51 := Tryz.zeroValue96
 t53 := Tryz.underlying99
 a53 := Tryz.isAgg99
 z53 := Tryz.sizeOf99
 v53 := Tryz.zeroValue99
 t70 := Tryz.underlying68
 a70 := Tryz.isAgg68
 z70 := Tryz.sizeOf68
 v70 := Tryz.zeroValue68
 t72 := Tryz.underlying70
 a72 := Tryz.isAgg70
 z72 := Tryz.sizeOf70
 v72 := Tryz.zeroValue70
 t75 := Tryz.underlying73
 a75 := Tryz.isAgg73
 z75 := Tryz.sizeOf73
 v75 := Tryz.zeroValue73
 t76 := Tryz.underlying74
 a76 := Tryz.isAgg74
 z76 := Tryz.sizeOf74
 v76 := Tryz.zeroValue74
 t109 := Tryz.underlying65
 a109 := Tryz.isAgg65
 z109 := Tryz.sizeOf65
 v109 := Tryz.zeroValue65
 t127 := Tryz.underlying102
 a127 := Tryz.isAgg102
 z127 := Tryz.sizeOf102
 v127 := Tryz.zeroValue102
 t146 := Tryz.underlying97
 a146 := Tryz.isAgg97
 z146 := Tryz.sizeOf97
 v146 := Tryz.zeroValue97
 t148 := Tryz.underlying100
 a148 := Tryz.isAgg100
 z148 := Tryz.sizeOf100
 v148 := Tryz.zeroValue100
 t164 := Tryz.underlying122
 a164 := Tryz.isAgg122
 z164 := Tryz.sizeOf122
 v164 := Tryz.zeroValue122 }
theorem Tryz.Builder_Extra_105 : Builder.Extra Tryz.prog Tryz.lays105_ren := {
 sizeBuilder := by kernel_rfl
 liesBuilder := by kernel_rfl
 t5 := Tryz.underlying5
 a5 := Tryz.isAgg5
 z5 := Tryz.sizeOf5
 v5 := Tryz.zeroValue5
 infoByte := by kernel_rfl
 cellsByte := by kernel_rfl
 sizeByte := by kernel_rfl
 neB5 := by decide }
open Go.RowKit Go.Lib in
theorem Tryz.strings_Repeat_main (s : ByteArray) (c : Nat) (w : World) (hc2 : 2 ≤ c) (hc : c ≤ 9223372036854775807) (hlen : s.size * c ≤ 140737488355328) (h0 : 0 < s.size) :
  Calls Tryz.prog 17 #[.string s, .int .i64 c] w fun e w' => e = .returned (.string ⟨(Lib.repeatL s.data.toList c).toArray⟩) ∧ Below w.heap.size w w' := Any.strings_Repeat_main Tryz.lays105 Tryz.Builder_Extra_105 s c w hc2 hc hlen h0
open Go.RowKit Go.Lib in
theorem Tryz.strings_Repeat_zero (s : ByteArray) (w : World) :
  Calls Tryz.prog 17 #[.string s, .int .i64 0] w fun e w' => e = .returned (.string ⟨#[]⟩) ∧ w' = w := Any.strings_Repeat_zero Tryz.lays105 s w
open Go.RowKit Go.Lib in
theorem Tryz.strings_Repeat_one (s : ByteArray) (w : World) :
  Calls Tryz.prog 17 #[.string s, .int .i64 1] w fun e w' => e = .returned (.string s) ∧ w' = w := Any.strings_Repeat_one Tryz.lays105 s w
end Go.Proofs
namespace Go.Proofs
open Go.Shelf Go.RowKit
def Tryz.layh167_ren : Go.Shelf.Ren := ⟨fun | 167 => 114 | 240 => 72 | 276 => 105 | n => n, fun | 37 => 34 | 70 => 68 | 72 => 70 | 75 => 73 | 80 => 77 | 164 => 122 | n => n, fun | n => n⟩
theorem Tryz.layh167 : Go.Proofs.Lays.n167 Tryz.prog Tryz.layh167_ren := {
 mixed := by kernel_rfl
 f167 := Tryz.func114.trans (congrArg some (by kernel_rfl))
 f240 := Tryz.func72.trans (congrArg some (by kernel_rfl))
 f276 := Tryz.func105.trans (congrArg some (by kernel_rfl))
 t0 := Tryz.underlying0
 a0 := Tryz.isAgg0
 z0 := Tryz.sizeOf0
 v0 := Tryz.zeroValue0
 t4 := Tryz.underlying4
 a4 := Tryz.isAgg4
 z4 := Tryz.sizeOf4
 v4 := Tryz.zeroValue4
 t5 := Tryz.underlying5
 a5 := Tryz.isAgg5
 z5 := Tryz.sizeOf5
 v5 := Tryz.zeroValue5
 t9 := Tryz.underlying9
 a9 := Tryz.isAgg9
 z9 := Tryz.sizeOf9
 v9 := Tryz.zeroValue9
 t20 := Tryz.underlying20
 a20 := Tryz.isAgg20
 z20 := Tryz.sizeOf20
 v20 := Tryz.zeroValue20
 t37 := Tryz.underlying34
 a37 := Tryz.isAgg34
 z37 := Tryz.sizeOf34
 v37 := Tryz.zeroValue34
 t70 := Tryz.underlying68
 a70 := Tryz.isAgg68
 z70 := Tryz.sizeOf68
 v70 := Tryz.zeroValue68
 t72 := Tryz.underlying70
 a72 := Tryz.isAgg70
 z72 := Tryz.sizeOf70
 v72 := Tryz.zeroValue70
 t75 := Tryz.underlying73
 a75 := Tryz.isAgg73
 z75 := Tryz.sizeOf73
 v75 := Tryz.zeroValue73
 t164 := Tryz.underlying122
 a164 := Tryz.isAgg122
 z164 := Tryz.sizeOf122
 v164 := Tryz.zeroValue122 }
def Tryz.layh166_ren : Go.Shelf.Ren := ⟨fun | 166 => 36 | 240 => 72 | 276 => 105 | n => n, fun | 37 => 34 | 70 => 68 | 72 => 70 | 75 => 73 | 80 => 77 | 164 => 122 | n => n, fun | n => n⟩
theorem Tryz.layh166 : Go.Proofs.Lays.n166 Tryz.prog Tryz.layh166_ren := {
 mixed := by kernel_rfl
 f166 := Tryz.func36.trans (congrArg some (by kernel_rfl))
 f240 := Tryz.func72.trans (congrArg some (by kernel_rfl))
 f276 := Tryz.func105.trans (congrArg some (by kernel_rfl))
 t0 := Tryz.underlying0
 a0 := Tryz.isAgg0
 z0 := Tryz.sizeOf0
 v0 := Tryz.zeroValue0
 t3 := Tryz.underlying3
 a3 := Tryz.isAgg3
 z3 := Tryz.sizeOf3
 v3 := Tryz.zeroValue3
 t4 := Tryz.underlying4
 a4 := Tryz.isAgg4
 z4 := Tryz.sizeOf4
 v4 := Tryz.zeroValue4
 t9 := Tryz.underlying9
 a9 := Tryz.isAgg9
 z9 := Tryz.sizeOf9
 v9 := Tryz.zeroValue9
 t20 := Tryz.underlying20
 a20 := Tryz.isAgg20
 z20 := Tryz.sizeOf20
 v20 := Tryz.zeroValue20
 t37 := Tryz.underlying34
 a37 := Tryz.isAgg34
 z37 := Tryz.sizeOf34
 v37 := Tryz.zeroValue34
 t70 := Tryz.underlying68
 a70 := Tryz.isAgg68
 z70 := Tryz.sizeOf68
 v70 := Tryz.zeroValue68
 t72 := Tryz.underlying70
 a72 := Tryz.isAgg70
 z72 := Tryz.sizeOf70
 v72 := Tryz.zeroValue70
 t75 := Tryz.underlying73
 a75 := Tryz.isAgg73
 z75 := Tryz.sizeOf73
 v75 := Tryz.zeroValue73
 t164 := Tryz.underlying122
 a164 := Tryz.isAgg122
 z164 := Tryz.sizeOf122
 v164 := Tryz.zeroValue122 }
theorem Tryz.Builder_Extra_h : Builder.Extra Tryz.prog Tryz.layh167_ren := {
 sizeBuilder := by kernel_rfl
 liesBuilder := by kernel_rfl
 t5 := Tryz.underlying5
 a5 := Tryz.isAgg5
 z5 := Tryz.sizeOf5
 v5 := Tryz.zeroValue5
 infoByte := by kernel_rfl
 cellsByte := by kernel_rfl
 sizeByte := by kernel_rfl
 neB5 := by decide }
theorem Tryz.Builder_Extra_h6 : Builder.Extra Tryz.prog Tryz.layh166_ren := {
 sizeBuilder := by kernel_rfl
 liesBuilder := by kernel_rfl
 t5 := Tryz.underlying5
 a5 := Tryz.isAgg5
 z5 := Tryz.sizeOf5
 v5 := Tryz.zeroValue5
 infoByte := by kernel_rfl
 cellsByte := by kernel_rfl
 sizeByte := by kernel_rfl
 neB5 := by decide }
theorem Tryz.writeByte_h (B b : Nat) (bs : List Value) (c : Int) (w : World) (h : Lib.IsBuilder 70 5 B b bs w) (hlen : bs.length + 1 ≤ 140737488355328) (hBw : B ≤ w.heap.size) :
  Calls Tryz.prog 114 #[.pointer (some ⟨b, 0, none⟩), .int .u8 c] w fun e w' => e = .returned .nilIface ∧ (Lib.BuilderAt 70 5 B b (.pointer (some ⟨b, 0, none⟩)) (bs ++ [.int .u8 c]) w' ∧ Below B w w') := Any.Builder_WriteByte Tryz.layh167 Tryz.Builder_Extra_h B b bs c w h hlen hBw
theorem Tryz.writeString_h (B b : Nat) (bs : List Value) (s : ByteArray) (w : World) (h : Lib.IsBuilder 70 5 B b bs w) (hlen : bs.length + s.size ≤ 140737488355328) (hBw : B ≤ w.heap.size) :
  Calls Tryz.prog 36 #[.pointer (some ⟨b, 0, none⟩), .string s] w fun e w' => e = .returned (.tuple #[.int .i64 s.size, .nilIface]) ∧ (Lib.BuilderAt 70 5 B b (.pointer (some ⟨b, 0, none⟩)) (bs ++ Lib.strCells s) w' ∧ Below B w w') := Any.Builder_WriteString Tryz.layh166 Tryz.Builder_Extra_h6 B b bs s w h hlen hBw
theorem Tryz.writeString_k (B b : Nat) (bs : List Value) (s : ByteArray) (w : World) (h : Lib.IsBuilderF 70 5 B b bs w) (hlen : bs.length + s.size ≤ 140737488355328) (hBw : B ≤ w.heap.size) :
  Calls Tryz.prog 36 #[.pointer (some ⟨b, 0, none⟩), .string s] w fun e w' => e = .returned (.tuple #[.int .i64 s.size, .nilIface]) ∧ (Lib.BuilderAtF 70 5 B b (.pointer (some ⟨b, 0, none⟩)) (bs ++ Lib.strCells s) w' ∧ Below B w w' ∧ Lib.OthersKept 5 (some b) w w') := Any.Builder_WriteString_k Tryz.layh166 Tryz.Builder_Extra_h6 B b bs s w h hlen hBw
end Go.Proofs
