/-
  The texts that the claim wants, one behind the other: part 11.
-/
import Derived.Test.YtgidajjjpeboeaaGreatDoorS10
import Derived.Shelf.Small.Bits
import Derived.Shelf.Small.Strs
import Derived.Shelf.Strconv.Atoi
import Derived.Shelf.Strconv.Itoa0
import Derived.Shelf.Strconv.Itoa1
import Derived.Shelf.LaysM
import Derived.Shelf.Strconv.Itoa2
import Derived.Shelf.Strconv.Itoa3
import Derived.Shelf.Strconv.AtoiErrFast
import Derived.Shelf.Strconv.ParseIntEmpty
import Derived.Shelf.Strconv.AtoiFail
import Derived.Shelf.Strconv.Clone
import Derived.Shelf.Strconv.SyntaxError
import Derived.Shelf.LaysC
import Derived.Shelf.Strconv.ToError
import Derived.Shelf.Strconv.Lower
import Derived.Shelf.Strconv.ParseUint10
import Derived.Shelf.Strconv.ParseUint10Empty
import Derived.Shelf.Strconv.ParseUint10Any
import Derived.Shelf.Strconv.ParseInt10
import Derived.Shelf.Strconv.AtoiLong
import Derived.Shelf.Strconv.AtoiInnerAll
import Derived.Shelf.Strconv.RangeError
import Derived.Shelf.Strconv.ToErrorRange
import Derived.Shelf.Strconv.AtoiAll
import Derived.Shelf.Strings.Search1
import Derived.Shelf.Strings.Search2
import Derived.Shelf.Strings.Search3
import Derived.Shelf.Strings.Shaped
import Derived.Shelf.Strings.LastIndex
import Derived.Shelf.Strings.LastIndexAll
import Derived.Test.YtgidajjjpeboeaaGreatDoorProg
set_option linter.unusedSimpArgs false
set_option linter.unusedVariables false
namespace Go.Proofs
abbrev synR := Lib.atoiAll []
open Go.Shelf
def Tryz.lays137_ren : Go.Shelf.Ren := ⟨fun | 137 => 156 | 217 => 189 | 266 => 201 | n => n, fun | 9 => 9 | 5 => 5 | 3 => 3 | n => n, fun | n => n⟩
theorem Tryz.lays137 : Go.Proofs.Lays.n137 Tryz.prog Tryz.lays137_ren := {
 mixed := by kernel_rfl
 f137 := Tryz.func156.trans (congrArg some (by kernel_rfl))
 f217 := Tryz.func189.trans (congrArg some (by kernel_rfl))
 f266 := Tryz.func201.trans (congrArg some (by kernel_rfl))
 t3 := Tryz.underlying3
 a3 := Tryz.isAgg3
 z3 := Tryz.sizeOf3
 v3 := Tryz.zeroValue3
 t5 := Tryz.underlying5
 a5 := Tryz.isAgg5
 z5 := Tryz.sizeOf5
 v5 := Tryz.zeroValue5
 t9 := Tryz.underlying9
 a9 := Tryz.isAgg9
 z9 := Tryz.sizeOf9
 v9 := Tryz.zeroValue9 }
open Go.RowKit in
theorem Tryz.strings_IndexByte (s : ByteArray) (c : Int) (w : World) :
  Calls Tryz.prog 156 #[.string s, .int .u8 c] w fun e w' => e = .returned (.int .i64 (Lib.indexByte s.data.toList c.toNat.toUInt8)) ∧ w' = w := Any.strings_IndexByte Tryz.lays137 s c w
def Tryz.lays172_ren : Go.Shelf.Ren := ⟨fun | 172 => 56 | 244 => 93 | 245 => 94 | 247 => 149 | 279 => 150 | 280 => 151 | 281 => 152 | 282 => 153 | 287 => 186 | 316 => 187 | 171 => 97 | 205 => 188 | 321 => 199 | 322 => 200 | 243 => 158 | 246 => 191 | 283 => 205 | 284 => 206 | 285 => 207 | 286 => 208 | 129 => 118 | 317 => 210 | 318 => 211 | 319 => 212 | 320 => 213 | 337 => 214 | 338 => 215 | n => n, fun | 9 => 9 | 3 => 3 | 75 => 107 | 76 => 108 | 4 => 4 | 5 => 5 | 167 => 201 | 37 => 202 | 0 => 0 | 85 => 203 | 2 => 2 | 168 => 205 | 53 => 177 | 175 => 224 | 46 => 130 | 210 => 227 | 127 => 239 | 145 => 242 | 143 => 240 | 21 => 21 | 171 => 244 | 173 => 246 | 212 => 249 | 51 => 175 | 20 => 20 | 213 => 250 | 232 => 251 | 233 => 252 | 80 => 253 | n => n, fun | 15 => 2 | 16 => 3 | 17 => 4 | 18 => 5 | 19 => 6 | n => n⟩
theorem Tryz.lays172 : Go.Proofs.Lays.n172 Tryz.prog Tryz.lays172_ren := {
 mixed := by kernel_rfl
 f129 := Tryz.func118.trans (congrArg some (by kernel_rfl))
 f171 := Tryz.func97.trans (congrArg some (by kernel_rfl))
 f172 := Tryz.func56.trans (congrArg some (by kernel_rfl))
 f205 := Tryz.func188.trans (congrArg some (by kernel_rfl))
 f243 := Tryz.func158.trans (congrArg some (by kernel_rfl))
 f244 := Tryz.func93.trans (congrArg some (by kernel_rfl))
 f245 := Tryz.func94.trans (congrArg some (by kernel_rfl))
 f246 := Tryz.func191.trans (congrArg some (by kernel_rfl))
 f247 := Tryz.func149.trans (congrArg some (by kernel_rfl))
 f279 := Tryz.func150.trans (congrArg some (by kernel_rfl))
 f280 := Tryz.func151.trans (congrArg some (by kernel_rfl))
 f281 := Tryz.func152.trans (congrArg some (by kernel_rfl))
 f282 := Tryz.func153.trans (congrArg some (by kernel_rfl))
 f283 := Tryz.func205.trans (congrArg some (by kernel_rfl))
 f284 := Tryz.func206.trans (congrArg some (by kernel_rfl))
 f285 := Tryz.func207.trans (congrArg some (by kernel_rfl))
 f286 := Tryz.func208.trans (congrArg some (by kernel_rfl))
 f287 := Tryz.func186.trans (congrArg some (by kernel_rfl))
 f316 := Tryz.func187.trans (congrArg some (by kernel_rfl))
 f317 := Tryz.func210.trans (congrArg some (by kernel_rfl))
 f318 := Tryz.func211.trans (congrArg some (by kernel_rfl))
 f319 := Tryz.func212.trans (congrArg some (by kernel_rfl))
 f320 := Tryz.func213.trans (congrArg some (by kernel_rfl))
 f321 := Tryz.func199.trans (congrArg some (by kernel_rfl))
 f322 := Tryz.func200.trans (congrArg some (by kernel_rfl))
 f337 := Tryz.func214.trans (congrArg some (by kernel_rfl))
 f338 := Tryz.func215.trans (congrArg some (by kernel_rfl))
 t0 := Tryz.underlying0
 a0 := Tryz.isAgg0
 z0 := Tryz.sizeOf0
 v0 := Tryz.zeroValue0
 t2 := Tryz.underlying2
 a2 := Tryz.isAgg2
 z2 := Tryz.sizeOf2
 v2 := Tryz.zeroValue2
 t3 := Tryz.underlying3
 a3 := Tryz.isAgg3
 z3 := Tryz.sizeOf3
 v3 := Tryz.zeroValue3
 t4 := Tryz.underlying4
 a4 := Tryz.isAgg4
 z4 := Tryz.sizeOf4
 v4 := Tryz.zeroValue4
 t5 := Tryz.underlying5
 a5 := Tryz.isAgg5
 z5 := Tryz.sizeOf5
 v5 := Tryz.zeroValue5
 t9 := Tryz.underlying9
 a9 := Tryz.isAgg9
 z9 := Tryz.sizeOf9
 v9 := Tryz.zeroValue9
 t20 := Tryz.underlying20
 a20 := Tryz.isAgg20
 z20 := Tryz.sizeOf20
 v20 := Tryz.zeroValue20
 t21 := Tryz.underlying21
 a21 := Tryz.isAgg21
 z21 := Tryz.sizeOf21
 v21 := Tryz.zeroValue21
 t37 := Tryz.underlying202
 a37 := Tryz.isAgg202
 z37 := Tryz.sizeOf202
 v37 := Tryz.zeroValue202
 t46 := Tryz.underlying130
 a46 := Tryz.isAgg130
 z46 := Tryz.sizeOf130
 v46 := Tryz.zeroValue130
 t51 := Tryz.underlying175
 a51 := Tryz.isAgg175
 z51 := Tryz.sizeOf175
 v51 := Tryz.zeroValue175
 t53 := Tryz.underlying177
 a53 := Tryz.isAgg177
 z53 := Tryz.sizeOf177
 v53 := Tryz.zeroValue177
 t75 := Tryz.underlying107
 a75 := Tryz.isAgg107
 z75 := Tryz.sizeOf107
 v75 := Tryz.zeroValue107
 t76 := Tryz.underlying108
 a76 := Tryz.isAgg108
 z76 := Tryz.sizeOf108
 v76 := Tryz.zeroValue108
 t85 := Tryz.underlying203
 a85 := Tryz.isAgg203
 z85 := Tryz.sizeOf203
 v85 := Tryz.zeroValue203
 t127 := Tryz.underlying239
 a127 := Tryz.isAgg239
 z127 := Tryz.sizeOf239
 v127 := Tryz.zeroValue239
 t143 := Tryz.underlying240
 a143 := Tryz.isAgg240
 z143 := Tryz.sizeOf240
 v143 := Tryz.zeroValue240
 t145 := Tryz.underlying242
 a145 := Tryz.isAgg242
 z145 := Tryz.sizeOf242
 v145 := Tryz.zeroValue242
 t167 := Tryz.underlying201
 a167 := Tryz.isAgg201
 z167 := Tryz.sizeOf201
 v167 := Tryz.zeroValue201
 t168 := Tryz.underlying205
 a168 := Tryz.isAgg205
 z168 := Tryz.sizeOf205
 v168 := Tryz.zeroValue205
 t171 := Tryz.underlying244
 a171 := Tryz.isAgg244
 z171 := Tryz.sizeOf244
 v171 := Tryz.zeroValue244
 t173 := Tryz.underlying246
 a173 := Tryz.isAgg246
 z173 := Tryz.sizeOf246
 v173 := Tryz.zeroValue246
 t175 := Tryz.underlying224
 a175 := Tryz.isAgg224
 z175 := Tryz.sizeOf224
 v175 := Tryz.zeroValue224
 t210 := Tryz.underlying227
 a210 := Tryz.isAgg227
 z210 := Tryz.sizeOf227
 v210 := Tryz.zeroValue227
 t212 := Tryz.underlying249
 a212 := Tryz.isAgg249
 z212 := Tryz.sizeOf249
 v212 := Tryz.zeroValue249
 t213 := Tryz.underlying250
 a213 := Tryz.isAgg250
 z213 := Tryz.sizeOf250
 t232 := Tryz.underlying251
 a232 := Tryz.isAgg251
 z232 := Tryz.sizeOf251
 v232 := Tryz.zeroValue251
 t233 := Tryz.underlying252
 a233 := Tryz.isAgg252
 z233 := Tryz.sizeOf252
 v233 := Tryz.zeroValue252
 g15 := by kernel_rfl
 g16 := by kernel_rfl
 g17 := by kernel_rfl
 g18 := by kernel_rfl
 g19 := by kernel_rfl }
open Go.RowKit in
theorem Tryz.strconv_Atoi (s : ByteArray) (n : Int) (hl : s.size ≤ 18) (h : Lib.atoi s.data.toList = some n) (w : World) :
  Calls Tryz.prog 56 #[.string s] w fun e w' => e = .returned (.tuple #[.int .i64 n, .nilIface]) ∧ ∃ t, w' = Lib.bytesWorld w 5 t := Any.strconv_Atoi Tryz.lays172 s n hl h w
def Tryz.laysM171_ren : Go.Shelf.Ren := ⟨fun | 171 => 97 | 243 => 158 | 246 => 191 | 283 => 205 | 284 => 206 | 285 => 207 | 286 => 208 | 129 => 118 | 317 => 210 | 318 => 211 | 319 => 212 | 320 => 213 | 337 => 214 | 338 => 215 | n => n, fun | 3 => 3 | 9 => 9 | 2 => 2 | 4 => 4 | 171 => 244 | 0 => 0 | 53 => 177 | 37 => 202 | 5 => 5 | 173 => 246 | 212 => 249 | 51 => 175 | 20 => 20 | 213 => 250 | 46 => 130 | 232 => 251 | 233 => 252 | n => n, fun | 17 => 4 | 18 => 5 | 19 => 6 | n => n⟩
theorem Tryz.laysM171 : Go.Proofs.LaysM.n171 Tryz.prog Tryz.laysM171_ren := {
 mixed := by kernel_rfl
 f129 := Tryz.func118.trans (congrArg some (by kernel_rfl))
 f171 := Tryz.func97.trans (congrArg some (by kernel_rfl))
 f243 := Tryz.func158.trans (congrArg some (by kernel_rfl))
 f246 := Tryz.func191.trans (congrArg some (by kernel_rfl))
 f283 := Tryz.func205.trans (congrArg some (by kernel_rfl))
 f284 := Tryz.func206.trans (congrArg some (by kernel_rfl))
 f285 := Tryz.func207.trans (congrArg some (by kernel_rfl))
 f286 := Tryz.func208.trans (congrArg some (by kernel_rfl))
 f317 := Tryz.func210.trans (congrArg some (by kernel_rfl))
 f318 := Tryz.func211.trans (congrArg some (by kernel_rfl))
 f319 := Tryz.func212.trans (congrArg some (by kernel_rfl))
 f320 := Tryz.func213.trans (congrArg some (by kernel_rfl))
 f337 := Tryz.func214.trans (congrArg some (by kernel_rfl))
 f338 := Tryz.func215.trans (congrArg some (by kernel_rfl))
 t0 := Tryz.underlying0
 a0 := Tryz.isAgg0
 z0 := Tryz.sizeOf0
 v0 := Tryz.zeroValue0
 t2 := Tryz.underlying2
 a2 := Tryz.isAgg2
 z2 := Tryz.sizeOf2
 v2 := Tryz.zeroValue2
 t3 := Tryz.underlying3
 a3 := Tryz.isAgg3
 z3 := Tryz.sizeOf3
 v3 := Tryz.zeroValue3
 t4 := Tryz.underlying4
 a4 := Tryz.isAgg4
 z4 := Tryz.sizeOf4
 v4 := Tryz.zeroValue4
 t5 := Tryz.underlying5
 a5 := Tryz.isAgg5
 z5 := Tryz.sizeOf5
 v5 := Tryz.zeroValue5
 t9 := Tryz.underlying9
 a9 := Tryz.isAgg9
 z9 := Tryz.sizeOf9
 v9 := Tryz.zeroValue9
 t20 := Tryz.underlying20
 a20 := Tryz.isAgg20
 z20 := Tryz.sizeOf20
 v20 := Tryz.zeroValue20
 t37 := Tryz.underlying202
 a37 := Tryz.isAgg202
 z37 := Tryz.sizeOf202
 v37 := Tryz.zeroValue202
 t46 := Tryz.underlying130
 a46 := Tryz.isAgg130
 z46 := Tryz.sizeOf130
 v46 := Tryz.zeroValue130
 t51 := Tryz.underlying175
 a51 := Tryz.isAgg175
 z51 := Tryz.sizeOf175
 v51 := Tryz.zeroValue175
 t53 := Tryz.underlying177
 a53 := Tryz.isAgg177
 z53 := Tryz.sizeOf177
 v53 := Tryz.zeroValue177
 t171 := Tryz.underlying244
 a171 := Tryz.isAgg244
 z171 := Tryz.sizeOf244
 v171 := Tryz.zeroValue244
 t173 := Tryz.underlying246
 a173 := Tryz.isAgg246
 z173 := Tryz.sizeOf246
 v173 := Tryz.zeroValue246
 t212 := Tryz.underlying249
 a212 := Tryz.isAgg249
 z212 := Tryz.sizeOf249
 v212 := Tryz.zeroValue249
 t213 := Tryz.underlying250
 a213 := Tryz.isAgg250
 z213 := Tryz.sizeOf250
 t232 := Tryz.underlying251
 a232 := Tryz.isAgg251
 z232 := Tryz.sizeOf251
 v232 := Tryz.zeroValue251
 t233 := Tryz.underlying252
 a233 := Tryz.isAgg252
 z233 := Tryz.sizeOf252
 v233 := Tryz.zeroValue252
 g17 := by kernel_rfl
 g18 := by kernel_rfl
 g19 := by kernel_rfl
 i0 := by kernel_rfl
 i2 := by kernel_rfl
 i3 := by kernel_rfl
 i4 := by kernel_rfl
 i5 := by kernel_rfl
 i9 := by kernel_rfl
 i20 := by kernel_rfl
 i37 := by kernel_rfl
 i46 := by kernel_rfl
 i51 := by kernel_rfl
 i53 := by kernel_rfl
 i171 := by kernel_rfl
 i173 := by kernel_rfl
 i212 := by kernel_rfl
 i232 := by kernel_rfl
 i233 := by kernel_rfl
 m17 := by kernel_rfl
 m18 := by kernel_rfl
 m19 := by kernel_rfl }
open Go.RowKit Go.Sort Go.Lib in
theorem Tryz.strconv_Itoa (n : Int) (h0 : -9223372036854775808 ≤ n) (h1 : n ≤ 9223372036854775807) (w : World) (htab : Lib.TabIs Tryz.prog w "internal/strconv.uint64pow10" .u64 Lib.pow10Tab) :
  Calls Tryz.prog 97 #[.int .i64 n] w fun e w' => e = .returned (.string ⟨(Lib.itoa n).toArray⟩) ∧ ∃ k os, w' = grow (w.drewN k) os := Any.strconv_Itoa Tryz.laysM171 n h0 h1 w htab
def Tryz.laysC172_ren : Go.Shelf.Ren := ⟨fun | 172 => 56 | 244 => 93 | 245 => 94 | 247 => 149 | 279 => 150 | 280 => 151 | 281 => 152 | 282 => 153 | 287 => 186 | 316 => 187 | 171 => 97 | 205 => 188 | 321 => 199 | 322 => 200 | 243 => 158 | 246 => 191 | 283 => 205 | 284 => 206 | 285 => 207 | 286 => 208 | 129 => 118 | 317 => 210 | 318 => 211 | 319 => 212 | 320 => 213 | 337 => 214 | 338 => 215 | n => n, fun | 9 => 9 | 3 => 3 | 75 => 107 | 76 => 108 | 4 => 4 | 5 => 5 | 167 => 201 | 37 => 202 | 0 => 0 | 85 => 203 | 2 => 2 | 168 => 205 | 53 => 177 | 175 => 224 | 46 => 130 | 210 => 227 | 127 => 239 | 145 => 242 | 143 => 240 | 21 => 21 | 171 => 244 | 173 => 246 | 212 => 249 | 51 => 175 | 20 => 20 | 213 => 250 | 232 => 251 | 233 => 252 | 80 => 253 | n => n, fun | 15 => 2 | 16 => 3 | 17 => 4 | 18 => 5 | 19 => 6 | n => n⟩
theorem Tryz.laysC172 : Go.Proofs.LaysC.n172 Tryz.prog Tryz.laysC172_ren := {
 mixed := by kernel_rfl
 f129 := Tryz.func118.trans (congrArg some (by kernel_rfl))
 f171 := Tryz.func97.trans (congrArg some (by kernel_rfl))
 f172 := Tryz.func56.trans (congrArg some (by kernel_rfl))
 f205 := Tryz.func188.trans (congrArg some (by kernel_rfl))
 f243 := Tryz.func158.trans (congrArg some (by kernel_rfl))
 f244 := Tryz.func93.trans (congrArg some (by kernel_rfl))
 f245 := Tryz.func94.trans (congrArg some (by kernel_rfl))
 f246 := Tryz.func191.trans (congrArg some (by kernel_rfl))
 f247 := Tryz.func149.trans (congrArg some (by kernel_rfl))
 f279 := Tryz.func150.trans (congrArg some (by kernel_rfl))
 f280 := Tryz.func151.trans (congrArg some (by kernel_rfl))
 f281 := Tryz.func152.trans (congrArg some (by kernel_rfl))
 f282 := Tryz.func153.trans (congrArg some (by kernel_rfl))
 f283 := Tryz.func205.trans (congrArg some (by kernel_rfl))
 f284 := Tryz.func206.trans (congrArg some (by kernel_rfl))
 f285 := Tryz.func207.trans (congrArg some (by kernel_rfl))
 f286 := Tryz.func208.trans (congrArg some (by kernel_rfl))
 f287 := Tryz.func186.trans (congrArg some (by kernel_rfl))
 f316 := Tryz.func187.trans (congrArg some (by kernel_rfl))
 f317 := Tryz.func210.trans (congrArg some (by kernel_rfl))
 f318 := Tryz.func211.trans (congrArg some (by kernel_rfl))
 f319 := Tryz.func212.trans (congrArg some (by kernel_rfl))
 f320 := Tryz.func213.trans (congrArg some (by kernel_rfl))
 f321 := Tryz.func199.trans (congrArg some (by kernel_rfl))
 f322 := Tryz.func200.trans (congrArg some (by kernel_rfl))
 f337 := Tryz.func214.trans (congrArg some (by kernel_rfl))
 f338 := Tryz.func215.trans (congrArg some (by kernel_rfl))
 t0 := Tryz.underlying0
 a0 := Tryz.isAgg0
 z0 := Tryz.sizeOf0
 v0 := Tryz.zeroValue0
 t2 := Tryz.underlying2
 a2 := Tryz.isAgg2
 z2 := Tryz.sizeOf2
 v2 := Tryz.zeroValue2
 t3 := Tryz.underlying3
 a3 := Tryz.isAgg3
 z3 := Tryz.sizeOf3
 v3 := Tryz.zeroValue3
 t4 := Tryz.underlying4
 a4 := Tryz.isAgg4
 z4 := Tryz.sizeOf4
 v4 := Tryz.zeroValue4
 t5 := Tryz.underlying5
 a5 := Tryz.isAgg5
 z5 := Tryz.sizeOf5
 v5 := Tryz.zeroValue5
 t9 := Tryz.underlying9
 a9 := Tryz.isAgg9
 z9 := Tryz.sizeOf9
 v9 := Tryz.zeroValue9
 t20 := Tryz.underlying20
 a20 := Tryz.isAgg20
 z20 := Tryz.sizeOf20
 v20 := Tryz.zeroValue20
 t21 := Tryz.underlying21
 a21 := Tryz.isAgg21
 z21 := Tryz.sizeOf21
 v21 := Tryz.zeroValue21
 t37 := Tryz.underlying202
 a37 := Tryz.isAgg202
 z37 := Tryz.sizeOf202
 v37 := Tryz.zeroValue202
 t46 := Tryz.underlying130
 a46 := Tryz.isAgg130
 z46 := Tryz.sizeOf130
 v46 := Tryz.zeroValue130
 t51 := Tryz.underlying175
 a51 := Tryz.isAgg175
 z51 := Tryz.sizeOf175
 v51 := Tryz.zeroValue175
 t53 := Tryz.underlying177
 a53 := Tryz.isAgg177
 z53 := Tryz.sizeOf177
 v53 := Tryz.zeroValue177
 t75 := Tryz.underlying107
 a75 := Tryz.isAgg107
 z75 := Tryz.sizeOf107
 v75 := Tryz.zeroValue107
 t76 := Tryz.underlying108
 a76 := Tryz.isAgg108
 z76 := Tryz.sizeOf108
 v76 := Tryz.zeroValue108
 t85 := Tryz.underlying203
 a85 := Tryz.isAgg203
 z85 := Tryz.sizeOf203
 v85 := Tryz.zeroValue203
 t127 := Tryz.underlying239
 a127 := Tryz.isAgg239
 z127 := Tryz.sizeOf239
 v127 := Tryz.zeroValue239
 t143 := Tryz.underlying240
 a143 := Tryz.isAgg240
 z143 := Tryz.sizeOf240
 v143 := Tryz.zeroValue240
 t145 := Tryz.underlying242
 a145 := Tryz.isAgg242
 z145 := Tryz.sizeOf242
 v145 := Tryz.zeroValue242
 t167 := Tryz.underlying201
 a167 := Tryz.isAgg201
 z167 := Tryz.sizeOf201
 v167 := Tryz.zeroValue201
 t168 := Tryz.underlying205
 a168 := Tryz.isAgg205
 z168 := Tryz.sizeOf205
 v168 := Tryz.zeroValue205
 t171 := Tryz.underlying244
 a171 := Tryz.isAgg244
 z171 := Tryz.sizeOf244
 v171 := Tryz.zeroValue244
 t173 := Tryz.underlying246
 a173 := Tryz.isAgg246
 z173 := Tryz.sizeOf246
 v173 := Tryz.zeroValue246
 t175 := Tryz.underlying224
 a175 := Tryz.isAgg224
 z175 := Tryz.sizeOf224
 v175 := Tryz.zeroValue224
 t210 := Tryz.underlying227
 a210 := Tryz.isAgg227
 z210 := Tryz.sizeOf227
 v210 := Tryz.zeroValue227
 t212 := Tryz.underlying249
 a212 := Tryz.isAgg249
 z212 := Tryz.sizeOf249
 v212 := Tryz.zeroValue249
 t213 := Tryz.underlying250
 a213 := Tryz.isAgg250
 z213 := Tryz.sizeOf250
 t232 := Tryz.underlying251
 a232 := Tryz.isAgg251
 z232 := Tryz.sizeOf251
 v232 := Tryz.zeroValue251
 t233 := Tryz.underlying252
 a233 := Tryz.isAgg252
 z233 := Tryz.sizeOf252
 v233 := Tryz.zeroValue252
 g15 := by kernel_rfl
 g16 := by kernel_rfl
 g17 := by kernel_rfl
 g18 := by kernel_rfl
 g19 := by kernel_rfl
 t80 := Tryz.underlying253
 a80 := Tryz.isAgg253
 z80 := Tryz.sizeOf253
 v80 := Tryz.zeroValue253
 i0 := by kernel_rfl
 i2 := by kernel_rfl
 i3 := by kernel_rfl
 i4 := by kernel_rfl
 i5 := by kernel_rfl
 i9 := by kernel_rfl
 i20 := by kernel_rfl
 i21 := by kernel_rfl
 i37 := by kernel_rfl
 i46 := by kernel_rfl
 i51 := by kernel_rfl
 i53 := by kernel_rfl
 i75 := by kernel_rfl
 i76 := by kernel_rfl
 i80 := by kernel_rfl
 i85 := by kernel_rfl
 i127 := by kernel_rfl
 i143 := by kernel_rfl
 i145 := by kernel_rfl
 i167 := by kernel_rfl
 i168 := by kernel_rfl
 i171 := by kernel_rfl
 i173 := by kernel_rfl
 i175 := by kernel_rfl
 i210 := by kernel_rfl
 i212 := by kernel_rfl
 i232 := by kernel_rfl
 i233 := by kernel_rfl
 m15 := by kernel_rfl
 m16 := by kernel_rfl
 m17 := by kernel_rfl
 m18 := by kernel_rfl
 m19 := by kernel_rfl
 c0 := by kernel_rfl
 c2 := by kernel_rfl
 c3 := by kernel_rfl
 c4 := by kernel_rfl
 c5 := by kernel_rfl
 c9 := by kernel_rfl
 c20 := by kernel_rfl
 c21 := by kernel_rfl
 c37 := by kernel_rfl
 c46 := by kernel_rfl
 c51 := by kernel_rfl
 c53 := by kernel_rfl
 c75 := by kernel_rfl
 c76 := by kernel_rfl
 c80 := by kernel_rfl
 c85 := by kernel_rfl
 c127 := by kernel_rfl
 c143 := by kernel_rfl
 c145 := by kernel_rfl
 c167 := by kernel_rfl
 c168 := by kernel_rfl
 c171 := by kernel_rfl
 c173 := by kernel_rfl
 c175 := by kernel_rfl
 c210 := by kernel_rfl
 c212 := by kernel_rfl
 c213 := by kernel_rfl
 c232 := by kernel_rfl
 c233 := by kernel_rfl }
open Go.RowKit in
theorem Tryz.strconv_Atoi_ok (s : ByteArray) (hmax : s.size ≤ 9223372036854775806) (v : Int) (h : Lib.atoiAll s.data.toList = .ok v) (w : World) :
  Calls Tryz.prog 56 #[.string s] w fun e w' => e = .returned (.tuple #[.int .i64 v, .nilIface]) ∧ (w' = w ∨ ∃ t, w' = Lib.bytesWorld w 5 t) := Any.strconv_Atoi_ok Tryz.laysC172 s hmax v h w
open Go.RowKit in
theorem Tryz.strconv_Atoi_syntax (s : ByteArray) (hlim : s.size ≤ 281474976710656) (h : Lib.atoiAll s.data.toList = synR) (ev : Value) (w : World) (hv : w.cell? ⟨2, 0, none⟩ = some ev) (hev : ev = .nilIface ∨ ∃ te pe, ev = .iface te pe) :
  Calls Tryz.prog 56 #[.string s] w fun e w' => ∃ N, e = .returned (.tuple #[.int .i64 (0), .iface 205 (.pointer (some ⟨N, 0, none⟩))]) ∧ w.heap.size ≤ N ∧ w'.heap[N]? = some (.cells #[.string ⟨#[65, 116, 111, 105]⟩, .string s, ev] 227 (0, 0)) ∧ Below w.heap.size w w' := Any.strconv_Atoi_syntax Tryz.laysC172 s hlim h ev w hv hev
open Go.RowKit in
theorem Tryz.strconv_Atoi_range (s : ByteArray) (hlim : s.size ≤ 281474976710656) (h : Lib.atoiAll s.data.toList = .range) (ev : Value) (w : World) (hv : w.cell? ⟨3, 0, none⟩ = some ev) (hev : ev = .nilIface ∨ ∃ te pe, ev = .iface te pe) :
  Calls Tryz.prog 56 #[.string s] w fun e w' => ∃ N, e = .returned (.tuple #[.int .i64 (Lib.atoiSat s.data.toList), .iface 205 (.pointer (some ⟨N, 0, none⟩))]) ∧ w.heap.size ≤ N ∧ w'.heap[N]? = some (.cells #[.string ⟨#[65, 116, 111, 105]⟩, .string s, ev] 227 (0, 0)) ∧ Below w.heap.size w w' := Any.strconv_Atoi_range Tryz.laysC172 s hlim h ev w hv hev
def Tryz.lays144_ren : Go.Shelf.Ren := ⟨fun | 144 => 96 | 143 => 157 | 219 => 190 | 217 => 189 | 225 => 202 | 224 => 203 | 267 => 204 | 266 => 201 | 314 => 209 | n => n, fun | 9 => 9 | 4 => 4 | 3 => 3 | 5 => 5 | 46 => 130 | 146 => 199 | 51 => 175 | n => n, fun | 1 => 1 | n => n⟩
theorem Tryz.lays144 : Go.Proofs.Lays.n144 Tryz.prog Tryz.lays144_ren := {
 mixed := by kernel_rfl
 f143 := Tryz.func157.trans (congrArg some (by kernel_rfl))
 f144 := Tryz.func96.trans (congrArg some (by kernel_rfl))
 f217 := Tryz.func189.trans (congrArg some (by kernel_rfl))
 f219 := Tryz.func190.trans (congrArg some (by kernel_rfl))
 f224 := Tryz.func203.trans (congrArg some (by kernel_rfl))
 f225 := Tryz.func202.trans (congrArg some (by kernel_rfl))
 f266 := Tryz.func201.trans (congrArg some (by kernel_rfl))
 f267 := Tryz.func204.trans (congrArg some (by kernel_rfl))
 f314 := Tryz.func209.trans (congrArg some (by kernel_rfl))
 t3 := Tryz.underlying3
 a3 := Tryz.isAgg3
 z3 := Tryz.sizeOf3
 v3 := Tryz.zeroValue3
 t4 := Tryz.underlying4
 a4 := Tryz.isAgg4
 z4 := Tryz.sizeOf4
 v4 := Tryz.zeroValue4
 t5 := Tryz.underlying5
 a5 := Tryz.isAgg5
 z5 := Tryz.sizeOf5
 v5 := Tryz.zeroValue5
 t9 := Tryz.underlying9
 a9 := Tryz.isAgg9
 z9 := Tryz.sizeOf9
 v9 := Tryz.zeroValue9
 t46 := Tryz.underlying130
 a46 := Tryz.isAgg130
 z46 := Tryz.sizeOf130
 v46 := Tryz.zeroValue130
 t51 := Tryz.underlying175
 a51 := Tryz.isAgg175
 z51 := Tryz.sizeOf175
 v51 := Tryz.zeroValue175
 t146 := Tryz.underlying199
 a146 := Tryz.isAgg199
 z146 := Tryz.sizeOf199
 v146 := Tryz.zeroValue199
 g1 := by kernel_rfl }
open Go.RowKit Go.Lib in
theorem Tryz.strings_Contains_one (s : ByteArray) (c : UInt8) (w : World) :
  Calls Tryz.prog 96 #[.string s, .string ⟨#[c]⟩] w fun e w' => e = .returned (.bool (decide (0 ≤ Lib.indexByte s.data.toList c))) ∧ w' = w := Any.strings_Contains_one Tryz.lays144 s c w
def Tryz.lays148_ren : Go.Shelf.Ren := ⟨fun | 148 => 55 | 222 => 91 | 223 => 92 | 269 => 148 | n => n, fun | 9 => 9 | 3 => 3 | 4 => 4 | 5 => 5 | 146 => 199 | 51 => 175 | 46 => 130 | n => n, fun | n => n⟩
theorem Tryz.lays148 : Go.Proofs.Lays.n148 Tryz.prog Tryz.lays148_ren := {
 mixed := by kernel_rfl
 f148 := Tryz.func55.trans (congrArg some (by kernel_rfl))
 f222 := Tryz.func91.trans (congrArg some (by kernel_rfl))
 f223 := Tryz.func92.trans (congrArg some (by kernel_rfl))
 f269 := Tryz.func148.trans (congrArg some (by kernel_rfl))
 t3 := Tryz.underlying3
 a3 := Tryz.isAgg3
 z3 := Tryz.sizeOf3
 v3 := Tryz.zeroValue3
 t4 := Tryz.underlying4
 a4 := Tryz.isAgg4
 z4 := Tryz.sizeOf4
 v4 := Tryz.zeroValue4
 t5 := Tryz.underlying5
 a5 := Tryz.isAgg5
 z5 := Tryz.sizeOf5
 v5 := Tryz.zeroValue5
 t9 := Tryz.underlying9
 a9 := Tryz.isAgg9
 z9 := Tryz.sizeOf9
 v9 := Tryz.zeroValue9
 t46 := Tryz.underlying130
 a46 := Tryz.isAgg130
 z46 := Tryz.sizeOf130
 v46 := Tryz.zeroValue130
 t51 := Tryz.underlying175
 a51 := Tryz.isAgg175
 z51 := Tryz.sizeOf175
 v51 := Tryz.zeroValue175
 t146 := Tryz.underlying199
 a146 := Tryz.isAgg199
 z146 := Tryz.sizeOf199
 v146 := Tryz.zeroValue199 }
open Go.RowKit Go.Lib in
theorem Tryz.strings_LastIndex (s sub : ByteArray) (hs : s.size < 4611686018427387904) (w : World) :
  Calls Tryz.prog 55 #[.string s, .string sub] w fun e w' => e = .returned (.int .i64 (Lib.lastIndex s.data.toList sub.data.toList)) ∧ w' = w := Any.strings_LastIndex Tryz.lays148 s sub hs w
end Go.Proofs
namespace Go.Proofs.YtgidajjjpeboeaaGreatDoor
open Go.RowKit
theorem indexByte_a (s : ByteArray) (c : Int) : AC Tryz.prog 156 [.str s, .int .u8 c] (.int .i64 (Lib.indexByte s.data.toList c.toNat.toUInt8)) := by
 refine ⟨by kernel_rfl, fun σ w vs hh hr hg => ?_⟩
 have hl : vs.length = 2 := hr.1
 obtain ⟨v1, v2, rfl⟩ : ∃ a b, vs = [a, b] := by
  rcases vs with _ | ⟨a, _ | ⟨b, _ | ⟨d, l⟩⟩⟩ <;> simp at hl
  exact ⟨a, b, rfl⟩
 have h1 : Rel1 σ v1 (.str s) := hr.2 0 v1 _ rfl rfl
 have h2 : Rel1 σ v2 (.int .u8 c) := hr.2 1 v2 _ rfl rfl
 cases h1; cases h2
 refine (Tryz.strings_IndexByte s c w).mono ?_
 rintro e w' ⟨rfl, rfl⟩
 exact ⟨σ, _, rfl, Ext.refl _ _, hh, Below.refl _ _, .int _ _⟩
theorem letter_a (c : Nat) : AC Tryz.prog 154 [.int .u8 c] (.bool (letN c)) := by
 refine kE Tryz.func154 a_scalar_letter_ok a_scalar_letter_cb fun E hE => ?_
 refine kW ?_
 refine kQ [] ?_
 refine kW ?_
 refine AK.ret ⟨_, rfl, ?_⟩
 refine congrArg AV.bool ?_
 rw [Bool.eq_iff_iff]
 simp only [letN, Bool.or_eq_true, Bool.and_eq_true, decide_eq_true_eq]
 omega
theorem digit_a (c : Nat) : AC Tryz.prog 155 [.int .u8 c] (.bool (decide (48 ≤ c) && decide (c ≤ 57))) := by
 refine kE Tryz.func155 a_scalar_digit_ok a_scalar_digit_cb fun E hE => ?_
 refine kW ?_
 refine kQ [] ?_
 refine kW ?_
 refine AK.ret ⟨_, rfl, ?_⟩
 refine congrArg AV.bool ?_
 rw [Bool.eq_iff_iff]
 simp only [Bool.and_eq_true, decide_eq_true_eq]
 omega
end Go.Proofs.YtgidajjjpeboeaaGreatDoor
/-
 Words: which texts are bare: the program's function, walked.
-/
namespace Go.Proofs.YtgidajjjpeboeaaGreatDoor
open Go.RowKit
theorem idx4_all : (List.range 256).all (fun c => decide (Lib.indexByte [95, 45, 46, 47] (c : Int).toNat.toUInt8 < 0) == !(decide (c = 95) || decide (c = 45) || decide (c = 46) || decide (c = 47))) = true := by kernel_rfl
theorem idx4 {c : Nat} (h : c < 256) : decide (Lib.indexByte [95, 45, 46, 47] (c : Int).toNat.toUInt8 < 0) = !(decide (c = 95) || decide (c = 45) || decide (c = 46) || decide (c = 47)) :=
 eq_of_beq (List.all_eq_true.1 idx4_all c (List.mem_range.2 h))
theorem ba_empty {s : ByteArray} (h : s.size = 0) : s = ⟨#[]⟩ := by
 cases s with
 | mk d => exact congrArg ByteArray.mk (Array.eq_empty_of_size_eq_zero h)
theorem bare_a (s : ByteArray) (hs : s.size ≤ 140737488355328) : AC Tryz.prog 95 [.str s] (.bool (bareB s)) := by
 refine kE Tryz.func95 a_scalar_Bare_ok a_scalar_Bare_cb fun E hE => ?_
 refine kW ?_
 refine AK.loopI (fun k : Nat => (frOf [(0, .str s), (6, .int .i64 s.size), (7, .int .i64 k)], ⟨boxOf [], fun _ => 0⟩)) (fun k => k ≤ s.size ∧ ∀ j, (h : j < s.size) → j < k → bareAt j s[j].toNat = true) (fun k => s.size - k) 0 ⟨by omega, fun j h h2 => by omega⟩ (Weak.intro ⟨kI, kI, kI, trivial⟩ trivial rfl rfl) fun k ⟨hk, hno⟩ => ?_
 refine kW ?_
 refine kC (fun hb => ?_) fun hb => ?_
 ·have hlt : k < s.size := by simpa using hb
  have hc : s[k].toNat < 256 := s[k].toNat_lt
  refine kW ?_
  refine kQ [] ?_
  rw [show s.data.getD (k : Int).toNat 0 = s[k] from byte_at hlt]
  refine kW ?_
  refine kP [.v (.bool (letN s[k].toNat)), .v (.bool (decide (48 ≤ s[k].toNat) && decide (s[k].toNat ≤ 57))), .v (.int .i64 (Lib.indexByte [95, 45, 46, 47] ((s[k].toNat : Nat) : Int).toNat.toUInt8))] ?_ ?_
  ·((repeat' apply And.intro) <;> first | exact kD | (intro hgd; refine ⟨?_, kG⟩; (repeat' apply And.intro) <;> first | exact kD | skip) | skip)
   all_goals first | exact letter_a _ | exact digit_a _ | exact indexByte_a ⟨#[95, 45, 46, 47]⟩ _
  rw [idx4 hc]
  refine kC (fun hb => ?_) fun hb => ?_
  ·have hf : bareAt k s[k].toNat = false := by
    simp only [Bool.or_eq_true, Bool.and_eq_true, Bool.not_eq_true', Bool.or_eq_false_iff, Bool.and_eq_false_iff, decide_eq_true_eq, decide_eq_false_iff_not] at hb
    simp only [bareAt, moreN, Bool.or_eq_false_iff, Bool.and_eq_false_iff, Bool.not_eq_false', decide_eq_true_eq, decide_eq_false_iff_not]
    refine ⟨hb.1, ?_⟩
    omega
   refine kW ?_
   refine AK.ret ⟨_, rfl, ?_⟩
   rw [bareB_no hlt hf]
   rfl
  ·have ht : bareAt k s[k].toNat = true := by
    simp only [Bool.or_eq_true, Bool.and_eq_true, Bool.not_eq_false', Bool.or_eq_false_iff, Bool.and_eq_false_iff, decide_eq_true_eq, decide_eq_false_iff_not] at hb
    simp only [bareAt, moreN, Bool.or_eq_true, Bool.and_eq_true, Bool.not_eq_true', decide_eq_true_eq, decide_eq_false_iff_not]
    rcases hb with hb | hb
    ·exact .inl hb
    ·refine .inr ?_
     omega
   refine kW ?_
   exact AK.lp ⟨k + 1, ⟨by omega, fun j h h2 => by
    by_cases e : j = k
    ·subst e; exact ht
    ·exact hno j h (by omega)⟩, Weak.intro ⟨kI, kI, kU, trivial⟩ trivial rfl rfl, by omega⟩
 ·have hlt : s.size ≤ k := by simpa using hb
  have hall : decide (∀ k, (h : k < s.size) → bareAt k s[k].toNat = true) = true := decide_eq_true fun j h => hno j h (by omega)
  have hne : ∀ t : ByteArray, bareWord t = true → s = t → bareB s = false := fun t ht e => by rw [e, bareB, ht]; rfl
  refine AK.exit rfl ?_
  refine kW ?_
  refine kC (fun hb => ?_) fun hb => ?_
  ·have e : s = ⟨#[]⟩ := of_decide_eq_true hb
   have hb0 := hb
   refine kW ?_
   refine kC (fun hb => ?_) fun hb => ?_
   ·refine kW ?_
    refine AK.ret ⟨_, rfl, ?_⟩
    rw [hne _ (by kernel_rfl) e]
    rfl
   ·rw [hb0] at hb
    cases hb
  have n0 : s ≠ ⟨#[]⟩ := of_decide_eq_false hb
  refine kW ?_
  refine kC (fun hb => ?_) fun hb => ?_
  ·have e : s = ⟨#[110, 117, 108, 108]⟩ := of_decide_eq_true hb
   have hb0 := hb
   refine kW ?_
   refine kC (fun hb => ?_) fun hb => ?_
   ·refine kW ?_
    refine AK.ret ⟨_, rfl, ?_⟩
    rw [hne _ (by kernel_rfl) e]
    rfl
   ·rw [hb0] at hb
    cases hb
  have n1 : s ≠ ⟨#[110, 117, 108, 108]⟩ := of_decide_eq_false hb
  refine kW ?_
  refine kC (fun hb => ?_) fun hb => ?_
  ·have e : s = ⟨#[116, 114, 117, 101]⟩ := of_decide_eq_true hb
   have hb0 := hb
   refine kW ?_
   refine kC (fun hb => ?_) fun hb => ?_
   ·refine kW ?_
    refine AK.ret ⟨_, rfl, ?_⟩
    rw [hne _ (by kernel_rfl) e]
    rfl
   ·rw [hb0] at hb
    cases hb
  have n2 : s ≠ ⟨#[116, 114, 117, 101]⟩ := of_decide_eq_false hb
  refine kW ?_
  refine kC (fun hb => ?_) fun hb => ?_
  ·have e : s = ⟨#[102, 97, 108, 115, 101]⟩ := of_decide_eq_true hb
   refine kW ?_
   refine AK.ret ⟨_, rfl, ?_⟩
   rw [hne _ (by kernel_rfl) e]
   rfl
  have n3 : s ≠ ⟨#[102, 97, 108, 115, 101]⟩ := of_decide_eq_false hb
  refine kW ?_
  refine AK.ret ⟨_, rfl, ?_⟩
  have hz : s.size ≠ 0 := fun h => n0 (ba_empty h)
  have hw : bareWord s = false := by
   unfold bareWord
   rw [decide_eq_false hz, decide_eq_false n1, decide_eq_false n2, decide_eq_false n3]
   rfl
  have : bareB s = true := by
   rw [bareB, hw, hall]
   rfl
  rw [this]
  rfl
def noSl (s : ByteArray) : Bool := decide (∀ k, (h : k < s.size) → s[k].toNat ≠ 47)
def wordOkB (s : ByteArray) : Bool := noSl s && (bareB s && decide (s.size ≤ 64))
theorem noSl_no {s : ByteArray} {k : Nat} (h : k < s.size) (hb : s[k].toNat = 47) : noSl s = false := decide_eq_false fun hA => hA k h hb
theorem idx47 : ∀ (l : List UInt8), decide (0 ≤ Lib.indexByte l 47) = decide ((47 : UInt8) ∈ l)
 | [] => rfl
 | b :: l => by
  rw [Lib.indexByte]
  have ih := idx47 l
  by_cases h : b = 47
  ·subst h; simp
  ·have hb : (b == 47) = false := by simpa using h
   rw [hb]
   have e : decide ((47 : UInt8) ∈ b :: l) = decide ((47 : UInt8) ∈ l) := by
    rw [Bool.eq_iff_iff, decide_eq_true_eq, decide_eq_true_eq, List.mem_cons]
    exact ⟨fun h' => h'.resolve_left fun e => h e.symm, .inr⟩
   rw [e, ← ih]
   by_cases h1 : Lib.indexByte l 47 = -1
   ·simp [h1]
   ·have hge : -1 ≤ Lib.indexByte l 47 := by
     clear ih e h1
     induction l with
     | nil => decide
     | cons c l ih => rw [Lib.indexByte]; split <;> (try split) <;> omega
    have h2 : (Lib.indexByte l 47 == -1) = false := by simpa using h1
    simp only [Bool.false_eq_true, if_false, h2]
    rw [Bool.eq_iff_iff, decide_eq_true_eq, decide_eq_true_eq]
    omega
theorem noSl_mem (s : ByteArray) : (!decide ((47 : UInt8) ∈ s.data.toList)) = noSl s := by
 rw [Bool.eq_iff_iff, noSl, Bool.not_eq_true', decide_eq_false_iff_not, decide_eq_true_eq]
 constructor
 ·intro h k hk e
  refine h ?_
  have : s[k] = 47 := UInt8.toNat_inj.1 e
  rw [← this]
  exact Array.mem_toList_iff.2 (Array.getElem_mem hk)
 ·intro h hm
  obtain ⟨k, hk, e⟩ := List.getElem_of_mem hm
  have hk' : k < s.size := by simpa using hk
  refine h k hk' ?_
  have : s[k] = 47 := by rw [← e]; rfl
  rw [this]; rfl
theorem contains47_a (s : ByteArray) : AC Tryz.prog 96 [.str s, .str ⟨#[47]⟩] (.bool (!noSl s)) := by
 refine ⟨by kernel_rfl, fun σ w vs hh hr hg => ?_⟩
 have hl : vs.length = 2 := hr.1
 obtain ⟨v1, v2, rfl⟩ : ∃ a b, vs = [a, b] := by
  rcases vs with _ | ⟨a, _ | ⟨b, _ | ⟨d, l⟩⟩⟩ <;> simp at hl
  exact ⟨a, b, rfl⟩
 have h1 : Rel1 σ v1 (.str s) := hr.2 0 v1 _ rfl rfl
 have h2 : Rel1 σ v2 (.str ⟨#[47]⟩) := hr.2 1 v2 _ rfl rfl
 cases h1; cases h2
 refine (Tryz.strings_Contains_one s 47 w).mono ?_
 rintro e w' ⟨rfl, rfl⟩
 rw [idx47, ← noSl_mem, Bool.not_not]
 exact ⟨σ, _, rfl, Ext.refl _ _, hh, Below.refl _ _, .bool _⟩
theorem Holds.on {σ : Sg} {w w' : World} (hh : Holds σ w) (hb : Below w.heap.size w w') : Holds σ w' := fun b q v hv => (hb.cell (p := ⟨b, q, none⟩) (World.block_lt_of_cell? w _ (hh _ _ _ hv))).trans (hh _ _ _ hv)
end Go.Proofs.YtgidajjjpeboeaaGreatDoor
