/- Part 8. -/
import Derived.Test.YtbgflifmanjpjaaGreatDoorS7
import Derived.Shelf.Strings.Builder1
import Derived.Shelf.Strings.Builder2
import Derived.Shelf.Strings.OnBuilder
import Derived.Shelf.Strings.Trim
import Derived.Shelf.Small.Utf8
import Derived.Shelf.Small.Bits
import Derived.Shelf.Small.Strs
import Derived.Shelf.Strings.BuilderF
import Derived.Shelf.Strings.BuilderK
import Derived.Shelf.Utf8.RuneCount
import Derived.Shelf.Strings.Builder2Cap
import Derived.Shelf.Strconv.Itoa0
import Derived.Shelf.Strconv.Itoa1
import Derived.Shelf.LaysM
import Derived.Shelf.Strconv.Itoa2
import Derived.Shelf.Strconv.Itoa3
import Derived.Shelf.Strconv.Itoa4
import Derived.Shelf.Strconv.ParseIntEmpty
import Derived.Shelf.Strconv.Clone
import Derived.Shelf.Strconv.SyntaxError
import Derived.Shelf.LaysC
import Derived.Shelf.Strconv.ToError
import Derived.Shelf.Strconv.Lower
import Derived.Shelf.Strconv.ParseUint10
import Derived.Shelf.Strconv.ParseUint10Empty
import Derived.Shelf.Strconv.ParseUint10Any
import Derived.Shelf.Strconv.ParseInt10
import Derived.Shelf.Strconv.RangeError
import Derived.Shelf.Strconv.ToErrorRange
import Derived.Shelf.Strconv.ParseUintEmpty
import Derived.Shelf.Strconv.ParseUint10b64
import Derived.Shelf.Strconv.ParseUint10b32
import Derived.Shelf.Strconv.ParseUint10b16
import Derived.Shelf.Strconv.ParseUint10b8
import Derived.Shelf.Strconv.ParseUint10At
import Derived.Shelf.Strconv.ParseInt10At64
import Derived.Shelf.Strconv.ParseInt10At32
import Derived.Shelf.Strconv.ParseInt10At16
import Derived.Shelf.Strconv.ParseInt10At8
import Derived.Shelf.Strconv.ParseInt10All
import Derived.Shelf.Strconv.ParseIntPublic10
import Derived.Shelf.Strconv.ErrVarParseInt
import Derived.Shelf.Strings.Search1
import Derived.Shelf.Strings.Search2
import Derived.Shelf.Strings.Search3
import Derived.Shelf.Strings.Cut
import Derived.Shelf.Strings.Count
import Derived.Shelf.Strings.Shaped
import Derived.Shelf.Strings.LastIndex
import Derived.Shelf.Strings.Prefix
import Derived.Shelf.Strings.Split
import Derived.Shelf.Strings.Replace
import Derived.Shelf.Strings.SplitShaped
import Derived.Shelf.Unicode.Decode
import Derived.Shelf.Strings.Runes
import Derived.Shelf.Strings.RuneCount
import Derived.Shelf.Strings.AsciiSet
import Derived.Shelf.Strings.Explode
import Derived.Shelf.Bits.Mul64
import Derived.Shelf.Strings.Repeat
import Derived.Shelf.Unicode.DecodeSlow
import Derived.Shelf.Unicode.DecodeAny
import Derived.Shelf.Unicode.DecodeLast
import Derived.Ground.Names2Prog
import Derived.Shelf.Slices.SearchI
import Derived.Test.YtbgflifmanjpjaaGreatDoorProg
set_option linter.unusedSimpArgs false
set_option linter.unusedVariables false
namespace Go.Proofs
abbrev synR:=Lib.atoiAll []
open Go.Shelf
def Tryz.lays169_ren:Go.Shelf.Ren:=⟨fun|169=>62|n=>n,fun|70=>117|9=>9|0=>0|72=>120|37=>118|127=>169|3=>3|5=>5|n=>n,fun|n=>n⟩
theorem Tryz.lays169:Go.Proofs.Lays.n169 Tryz.prog Tryz.lays169_ren:=⟨by kernel_rfl,Tryz.func62.trans (congrArg some (by kernel_rfl)),Tryz.underlying0,Tryz.isAgg0,Tryz.sizeOf0,Tryz.zeroValue0,Tryz.underlying3,Tryz.isAgg3,Tryz.sizeOf3,Tryz.zeroValue3,Tryz.underlying9,Tryz.isAgg9,Tryz.sizeOf9,Tryz.zeroValue9,Tryz.underlying118,Tryz.isAgg118,Tryz.sizeOf118,Tryz.zeroValue118,Tryz.underlying117,Tryz.isAgg117,Tryz.sizeOf117,Tryz.zeroValue117,Tryz.underlying120,Tryz.isAgg120,Tryz.sizeOf120,Tryz.zeroValue120,Tryz.underlying169,Tryz.isAgg169,Tryz.sizeOf169,Tryz.zeroValue169⟩
theorem Tryz.Builder_Extra_169:Builder.Extra Tryz.prog Tryz.lays169_ren:={
 sizeBuilder:=by kernel_rfl
 liesBuilder:=by kernel_rfl
 t5:=Tryz.underlying5
 a5:=Tryz.isAgg5
 z5:=Tryz.sizeOf5
 v5:=Tryz.zeroValue5
 infoByte:=by kernel_rfl
 cellsByte:=by kernel_rfl
 sizeByte:=by kernel_rfl
 neB5:=by decide}
def Tryz.lays161_ren:Go.Shelf.Ren:=⟨fun|161=>89|231=>143|227=>139|233=>144|235=>145|228=>197|197=>200|151=>199|260=>243|152=>242|137=>101|119=>263|224=>207|225=>206|217=>155|266=>205|n=>n,fun|9=>9|4=>4|3=>3|5=>5|117=>189|116=>188|0=>0|124=>192|105=>237|21=>21|119=>290|46=>178|139=>293|138=>292|n=>n,fun|3=>2|4=>3|n=>n⟩
theorem Tryz.lays161:Go.Proofs.Lays.n161 Tryz.prog Tryz.lays161_ren:={
 mixed:=by kernel_rfl
 f119:=Tryz.func263.trans (congrArg some (by kernel_rfl))
 f137:=Tryz.func101.trans (congrArg some (by kernel_rfl))
 f151:=Tryz.func199.trans (congrArg some (by kernel_rfl))
 f152:=Tryz.func242.trans (congrArg some (by kernel_rfl))
 f161:=Tryz.func89.trans (congrArg some (by kernel_rfl))
 f197:=Tryz.func200.trans (congrArg some (by kernel_rfl))
 f217:=Tryz.func155.trans (congrArg some (by kernel_rfl))
 f224:=Tryz.func207.trans (congrArg some (by kernel_rfl))
 f225:=Tryz.func206.trans (congrArg some (by kernel_rfl))
 f227:=Tryz.func139.trans (congrArg some (by kernel_rfl))
 f228:=Tryz.func197.trans (congrArg some (by kernel_rfl))
 f231:=Tryz.func143.trans (congrArg some (by kernel_rfl))
 f233:=Tryz.func144.trans (congrArg some (by kernel_rfl))
 f235:=Tryz.func145.trans (congrArg some (by kernel_rfl))
 f260:=Tryz.func243.trans (congrArg some (by kernel_rfl))
 f266:=Tryz.func205.trans (congrArg some (by kernel_rfl))
 t0:=Tryz.underlying0
 a0:=Tryz.isAgg0
 z0:=Tryz.sizeOf0
 v0:=Tryz.zeroValue0
 t3:=Tryz.underlying3
 a3:=Tryz.isAgg3
 z3:=Tryz.sizeOf3
 v3:=Tryz.zeroValue3
 t4:=Tryz.underlying4
 a4:=Tryz.isAgg4
 z4:=Tryz.sizeOf4
 v4:=Tryz.zeroValue4
 t5:=Tryz.underlying5
 a5:=Tryz.isAgg5
 z5:=Tryz.sizeOf5
 v5:=Tryz.zeroValue5
 t9:=Tryz.underlying9
 a9:=Tryz.isAgg9
 z9:=Tryz.sizeOf9
 v9:=Tryz.zeroValue9
 t21:=Tryz.underlying21
 a21:=Tryz.isAgg21
 z21:=Tryz.sizeOf21
 v21:=Tryz.zeroValue21
 t46:=Tryz.underlying178
 a46:=Tryz.isAgg178
 z46:=Tryz.sizeOf178
 v46:=Tryz.zeroValue178
 t105:=Tryz.underlying237
 a105:=Tryz.isAgg237
 z105:=Tryz.sizeOf237
 v105:=Tryz.zeroValue237
 t116:=Tryz.underlying188
 a116:=Tryz.isAgg188
 z116:=Tryz.sizeOf188
 t117:=Tryz.underlying189
 a117:=Tryz.isAgg189
 z117:=Tryz.sizeOf189
 v117:=Tryz.zeroValue189
 t119:=Tryz.underlying290
 a119:=Tryz.isAgg290
 z119:=Tryz.sizeOf290
 t124:=Tryz.underlying192
 a124:=Tryz.isAgg192
 z124:=Tryz.sizeOf192
 v124:=Tryz.zeroValue192
 t138:=Tryz.underlying292
 a138:=Tryz.isAgg292
 z138:=Tryz.sizeOf292
 v138:=Tryz.zeroValue292
 t139:=Tryz.underlying293
 a139:=Tryz.isAgg293
 z139:=Tryz.sizeOf293
 v139:=Tryz.zeroValue293
 g3:=by kernel_rfl
 g4:=by kernel_rfl}
open Go.RowKit in
theorem Tryz.strings_TrimLeft_one (s:ByteArray) (c:UInt8) (g:c.toNat<128) (w:World):
  Calls Tryz.prog 89 #[.string s,.string ⟨#[c]⟩] w fun e w' =>e= .returned (.string ⟨(Lib.trimLeftB s.data.toList c).toArray⟩)∧w' =w:=Any.strings_TrimLeft_one Tryz.lays161 s c g w
def Tryz.lays162_ren:Go.Shelf.Ren:=⟨fun|162=>87|232=>138|227=>139|234=>140|236=>141|228=>197|271=>198|151=>199|120=>241|197=>200|152=>242|260=>243|137=>101|119=>263|224=>207|225=>206|217=>155|266=>205|n=>n,fun|9=>9|4=>4|3=>3|5=>5|117=>189|116=>188|0=>0|124=>192|21=>21|105=>237|46=>178|119=>290|139=>293|138=>292|n=>n,fun|3=>2|4=>3|n=>n⟩
theorem Tryz.lays162:Go.Proofs.Lays.n162 Tryz.prog Tryz.lays162_ren:={
 mixed:=by kernel_rfl
 f119:=Tryz.func263.trans (congrArg some (by kernel_rfl))
 f120:=Tryz.func241.trans (congrArg some (by kernel_rfl))
 f137:=Tryz.func101.trans (congrArg some (by kernel_rfl))
 f151:=Tryz.func199.trans (congrArg some (by kernel_rfl))
 f152:=Tryz.func242.trans (congrArg some (by kernel_rfl))
 f162:=Tryz.func87.trans (congrArg some (by kernel_rfl))
 f197:=Tryz.func200.trans (congrArg some (by kernel_rfl))
 f217:=Tryz.func155.trans (congrArg some (by kernel_rfl))
 f224:=Tryz.func207.trans (congrArg some (by kernel_rfl))
 f225:=Tryz.func206.trans (congrArg some (by kernel_rfl))
 f227:=Tryz.func139.trans (congrArg some (by kernel_rfl))
 f228:=Tryz.func197.trans (congrArg some (by kernel_rfl))
 f232:=Tryz.func138.trans (congrArg some (by kernel_rfl))
 f234:=Tryz.func140.trans (congrArg some (by kernel_rfl))
 f236:=Tryz.func141.trans (congrArg some (by kernel_rfl))
 f260:=Tryz.func243.trans (congrArg some (by kernel_rfl))
 f266:=Tryz.func205.trans (congrArg some (by kernel_rfl))
 f271:=Tryz.func198.trans (congrArg some (by kernel_rfl))
 t0:=Tryz.underlying0
 a0:=Tryz.isAgg0
 z0:=Tryz.sizeOf0
 v0:=Tryz.zeroValue0
 t3:=Tryz.underlying3
 a3:=Tryz.isAgg3
 z3:=Tryz.sizeOf3
 v3:=Tryz.zeroValue3
 t4:=Tryz.underlying4
 a4:=Tryz.isAgg4
 z4:=Tryz.sizeOf4
 v4:=Tryz.zeroValue4
 t5:=Tryz.underlying5
 a5:=Tryz.isAgg5
 z5:=Tryz.sizeOf5
 v5:=Tryz.zeroValue5
 t9:=Tryz.underlying9
 a9:=Tryz.isAgg9
 z9:=Tryz.sizeOf9
 v9:=Tryz.zeroValue9
 t21:=Tryz.underlying21
 a21:=Tryz.isAgg21
 z21:=Tryz.sizeOf21
 v21:=Tryz.zeroValue21
 t46:=Tryz.underlying178
 a46:=Tryz.isAgg178
 z46:=Tryz.sizeOf178
 v46:=Tryz.zeroValue178
 t105:=Tryz.underlying237
 a105:=Tryz.isAgg237
 z105:=Tryz.sizeOf237
 v105:=Tryz.zeroValue237
 t116:=Tryz.underlying188
 a116:=Tryz.isAgg188
 z116:=Tryz.sizeOf188
 t117:=Tryz.underlying189
 a117:=Tryz.isAgg189
 z117:=Tryz.sizeOf189
 v117:=Tryz.zeroValue189
 t119:=Tryz.underlying290
 a119:=Tryz.isAgg290
 z119:=Tryz.sizeOf290
 t124:=Tryz.underlying192
 a124:=Tryz.isAgg192
 z124:=Tryz.sizeOf192
 v124:=Tryz.zeroValue192
 t138:=Tryz.underlying292
 a138:=Tryz.isAgg292
 z138:=Tryz.sizeOf292
 v138:=Tryz.zeroValue292
 t139:=Tryz.underlying293
 a139:=Tryz.isAgg293
 z139:=Tryz.sizeOf293
 v139:=Tryz.zeroValue293
 g3:=by kernel_rfl
 g4:=by kernel_rfl}
open Go.RowKit in
theorem Tryz.strings_TrimRight_one (s:ByteArray) (c:UInt8) (g:c.toNat<128) (w:World) (i:s.size≤9223372036854775807):
  Calls Tryz.prog 87 #[.string s,.string ⟨#[c]⟩] w fun e w' =>e= .returned (.string ⟨(Lib.trimRightB s.data.toList c).toArray⟩)∧w' =w:=Any.strings_TrimRight_one Tryz.lays162 s c g w i
def Tryz.lays160_ren:Go.Shelf.Ren:=⟨fun|160=>108|232=>138|231=>143|227=>139|234=>140|233=>144|236=>141|235=>145|228=>197|271=>198|151=>199|197=>200|120=>241|152=>242|260=>243|137=>101|119=>263|224=>207|225=>206|217=>155|266=>205|n=>n,fun|9=>9|4=>4|3=>3|5=>5|117=>189|116=>188|0=>0|124=>192|21=>21|105=>237|46=>178|119=>290|139=>293|138=>292|n=>n,fun|3=>2|4=>3|n=>n⟩
theorem Tryz.lays160:Go.Proofs.Lays.n160 Tryz.prog Tryz.lays160_ren:={
 mixed:=by kernel_rfl
 f119:=Tryz.func263.trans (congrArg some (by kernel_rfl))
 f120:=Tryz.func241.trans (congrArg some (by kernel_rfl))
 f137:=Tryz.func101.trans (congrArg some (by kernel_rfl))
 f151:=Tryz.func199.trans (congrArg some (by kernel_rfl))
 f152:=Tryz.func242.trans (congrArg some (by kernel_rfl))
 f160:=Tryz.func108.trans (congrArg some (by kernel_rfl))
 f197:=Tryz.func200.trans (congrArg some (by kernel_rfl))
 f217:=Tryz.func155.trans (congrArg some (by kernel_rfl))
 f224:=Tryz.func207.trans (congrArg some (by kernel_rfl))
 f225:=Tryz.func206.trans (congrArg some (by kernel_rfl))
 f227:=Tryz.func139.trans (congrArg some (by kernel_rfl))
 f228:=Tryz.func197.trans (congrArg some (by kernel_rfl))
 f231:=Tryz.func143.trans (congrArg some (by kernel_rfl))
 f232:=Tryz.func138.trans (congrArg some (by kernel_rfl))
 f233:=Tryz.func144.trans (congrArg some (by kernel_rfl))
 f234:=Tryz.func140.trans (congrArg some (by kernel_rfl))
 f235:=Tryz.func145.trans (congrArg some (by kernel_rfl))
 f236:=Tryz.func141.trans (congrArg some (by kernel_rfl))
 f260:=Tryz.func243.trans (congrArg some (by kernel_rfl))
 f266:=Tryz.func205.trans (congrArg some (by kernel_rfl))
 f271:=Tryz.func198.trans (congrArg some (by kernel_rfl))
 t0:=Tryz.underlying0
 a0:=Tryz.isAgg0
 z0:=Tryz.sizeOf0
 v0:=Tryz.zeroValue0
 t3:=Tryz.underlying3
 a3:=Tryz.isAgg3
 z3:=Tryz.sizeOf3
 v3:=Tryz.zeroValue3
 t4:=Tryz.underlying4
 a4:=Tryz.isAgg4
 z4:=Tryz.sizeOf4
 v4:=Tryz.zeroValue4
 t5:=Tryz.underlying5
 a5:=Tryz.isAgg5
 z5:=Tryz.sizeOf5
 v5:=Tryz.zeroValue5
 t9:=Tryz.underlying9
 a9:=Tryz.isAgg9
 z9:=Tryz.sizeOf9
 v9:=Tryz.zeroValue9
 t21:=Tryz.underlying21
 a21:=Tryz.isAgg21
 z21:=Tryz.sizeOf21
 v21:=Tryz.zeroValue21
 t46:=Tryz.underlying178
 a46:=Tryz.isAgg178
 z46:=Tryz.sizeOf178
 v46:=Tryz.zeroValue178
 t105:=Tryz.underlying237
 a105:=Tryz.isAgg237
 z105:=Tryz.sizeOf237
 v105:=Tryz.zeroValue237
 t116:=Tryz.underlying188
 a116:=Tryz.isAgg188
 z116:=Tryz.sizeOf188
 t117:=Tryz.underlying189
 a117:=Tryz.isAgg189
 z117:=Tryz.sizeOf189
 v117:=Tryz.zeroValue189
 t119:=Tryz.underlying290
 a119:=Tryz.isAgg290
 z119:=Tryz.sizeOf290
 t124:=Tryz.underlying192
 a124:=Tryz.isAgg192
 z124:=Tryz.sizeOf192
 v124:=Tryz.zeroValue192
 t138:=Tryz.underlying292
 a138:=Tryz.isAgg292
 z138:=Tryz.sizeOf292
 v138:=Tryz.zeroValue292
 t139:=Tryz.underlying293
 a139:=Tryz.isAgg293
 z139:=Tryz.sizeOf293
 v139:=Tryz.zeroValue293
 g3:=by kernel_rfl
 g4:=by kernel_rfl}
def Tryz.lays137_ren:Go.Shelf.Ren:=⟨fun|137=>101|217=>155|266=>205|n=>n,fun|9=>9|5=>5|3=>3|n=>n,fun|n=>n⟩
theorem Tryz.lays137:Go.Proofs.Lays.n137 Tryz.prog Tryz.lays137_ren:=⟨by kernel_rfl,Tryz.func101.trans (congrArg some (by kernel_rfl)),Tryz.func155.trans (congrArg some (by kernel_rfl)),Tryz.func205.trans (congrArg some (by kernel_rfl)),Tryz.underlying3,Tryz.isAgg3,Tryz.sizeOf3,Tryz.zeroValue3,Tryz.underlying5,Tryz.isAgg5,Tryz.sizeOf5,Tryz.zeroValue5,Tryz.underlying9,Tryz.isAgg9,Tryz.sizeOf9,Tryz.zeroValue9⟩
open Go.RowKit in
theorem Tryz.strings_IndexByte (s:ByteArray) (c:Int) (w:World):
  Calls Tryz.prog 101 #[.string s,.int .u8 c] w fun e w' =>e= .returned (.int .i64 (Lib.indexByte s.data.toList c.toNat.toUInt8))∧w' =w:=Any.strings_IndexByte Tryz.lays137 s c w
open Go.RowKit in
theorem Tryz.Builder_String_any_f (B b:Nat) (l:List UInt8) (w:World) (h:Lib.IsBuilderF 120 5 B b (Lib.byteCells l) w) (g:B≤w.heap.size):
  Calls Tryz.prog 62 #[.pointer (some ⟨b,0,none⟩)] w fun e w' =>e= .returned (.string ⟨l.toArray⟩)∧(Lib.IsBuilderF 120 5 B b (Lib.byteCells l) w' ∧Below B w w'):=Any.Builder_String_any_f Tryz.lays169 Tryz.Builder_Extra_169 B b l w h g
def Tryz.laysC174_ren:Go.Shelf.Ren:=⟨fun|174=>182|247=>231|245=>232|287=>257|279=>258|280=>259|281=>260|282=>261|321=>284|322=>285|316=>286|171=>288|205=>287|243=>310|246=>282|283=>306|284=>307|285=>308|286=>309|129=>196|317=>319|318=>320|319=>321|320=>322|337=>325|338=>326|n=>n,fun|9=>9|3=>3|2=>2|75=>216|85=>222|4=>4|167=>281|5=>5|53=>236|175=>282|46=>178|168=>284|37=>118|0=>0|210=>308|21=>21|127=>169|145=>328|143=>326|171=>322|173=>324|212=>339|51=>234|20=>20|213=>340|232=>343|233=>344|80=>127|n=>n,fun|15=>5|16=>6|17=>7|18=>8|19=>9|n=>n⟩
theorem Tryz.laysC174:Go.Proofs.LaysC.n174 Tryz.prog Tryz.laysC174_ren:={
 mixed:=by kernel_rfl
 f129:=Tryz.func196.trans (congrArg some (by kernel_rfl))
 f171:=Tryz.func288.trans (congrArg some (by kernel_rfl))
 f174:=Tryz.func182.trans (congrArg some (by kernel_rfl))
 f205:=Tryz.func287.trans (congrArg some (by kernel_rfl))
 f243:=Tryz.func310.trans (congrArg some (by kernel_rfl))
 f245:=Tryz.func232.trans (congrArg some (by kernel_rfl))
 f246:=Tryz.func282.trans (congrArg some (by kernel_rfl))
 f247:=Tryz.func231.trans (congrArg some (by kernel_rfl))
 f279:=Tryz.func258.trans (congrArg some (by kernel_rfl))
 f280:=Tryz.func259.trans (congrArg some (by kernel_rfl))
 f281:=Tryz.func260.trans (congrArg some (by kernel_rfl))
 f282:=Tryz.func261.trans (congrArg some (by kernel_rfl))
 f283:=Tryz.func306.trans (congrArg some (by kernel_rfl))
 f284:=Tryz.func307.trans (congrArg some (by kernel_rfl))
 f285:=Tryz.func308.trans (congrArg some (by kernel_rfl))
 f286:=Tryz.func309.trans (congrArg some (by kernel_rfl))
 f287:=Tryz.func257.trans (congrArg some (by kernel_rfl))
 f316:=Tryz.func286.trans (congrArg some (by kernel_rfl))
 f317:=Tryz.func319.trans (congrArg some (by kernel_rfl))
 f318:=Tryz.func320.trans (congrArg some (by kernel_rfl))
 f319:=Tryz.func321.trans (congrArg some (by kernel_rfl))
 f320:=Tryz.func322.trans (congrArg some (by kernel_rfl))
 f321:=Tryz.func284.trans (congrArg some (by kernel_rfl))
 f322:=Tryz.func285.trans (congrArg some (by kernel_rfl))
 f337:=Tryz.func325.trans (congrArg some (by kernel_rfl))
 f338:=Tryz.func326.trans (congrArg some (by kernel_rfl))
 t0:=Tryz.underlying0
 a0:=Tryz.isAgg0
 z0:=Tryz.sizeOf0
 v0:=Tryz.zeroValue0
 t2:=Tryz.underlying2
 a2:=Tryz.isAgg2
 z2:=Tryz.sizeOf2
 v2:=Tryz.zeroValue2
 t3:=Tryz.underlying3
 a3:=Tryz.isAgg3
 z3:=Tryz.sizeOf3
 v3:=Tryz.zeroValue3
 t4:=Tryz.underlying4
 a4:=Tryz.isAgg4
 z4:=Tryz.sizeOf4
 v4:=Tryz.zeroValue4
 t5:=Tryz.underlying5
 a5:=Tryz.isAgg5
 z5:=Tryz.sizeOf5
 v5:=Tryz.zeroValue5
 t9:=Tryz.underlying9
 a9:=Tryz.isAgg9
 z9:=Tryz.sizeOf9
 v9:=Tryz.zeroValue9
 t20:=Tryz.underlying20
 a20:=Tryz.isAgg20
 z20:=Tryz.sizeOf20
 v20:=Tryz.zeroValue20
 t21:=Tryz.underlying21
 a21:=Tryz.isAgg21
 z21:=Tryz.sizeOf21
 v21:=Tryz.zeroValue21
 t37:=Tryz.underlying118
 a37:=Tryz.isAgg118
 z37:=Tryz.sizeOf118
 v37:=Tryz.zeroValue118
 t46:=Tryz.underlying178
 a46:=Tryz.isAgg178
 z46:=Tryz.sizeOf178
 v46:=Tryz.zeroValue178
 t51:=Tryz.underlying234
 a51:=Tryz.isAgg234
 z51:=Tryz.sizeOf234
 v51:=Tryz.zeroValue234
 t53:=Tryz.underlying236
 a53:=Tryz.isAgg236
 z53:=Tryz.sizeOf236
 v53:=Tryz.zeroValue236
 t75:=Tryz.underlying216
 a75:=Tryz.isAgg216
 z75:=Tryz.sizeOf216
 v75:=Tryz.zeroValue216
 t85:=Tryz.underlying222
 a85:=Tryz.isAgg222
 z85:=Tryz.sizeOf222
 v85:=Tryz.zeroValue222
 t127:=Tryz.underlying169
 a127:=Tryz.isAgg169
 z127:=Tryz.sizeOf169
 v127:=Tryz.zeroValue169
 t143:=Tryz.underlying326
 a143:=Tryz.isAgg326
 z143:=Tryz.sizeOf326
 v143:=Tryz.zeroValue326
 t145:=Tryz.underlying328
 a145:=Tryz.isAgg328
 z145:=Tryz.sizeOf328
 v145:=Tryz.zeroValue328
 t167:=Tryz.underlying281
 a167:=Tryz.isAgg281
 z167:=Tryz.sizeOf281
 v167:=Tryz.zeroValue281
 t168:=Tryz.underlying284
 a168:=Tryz.isAgg284
 z168:=Tryz.sizeOf284
 v168:=Tryz.zeroValue284
 t171:=Tryz.underlying322
 a171:=Tryz.isAgg322
 z171:=Tryz.sizeOf322
 v171:=Tryz.zeroValue322
 t173:=Tryz.underlying324
 a173:=Tryz.isAgg324
 z173:=Tryz.sizeOf324
 v173:=Tryz.zeroValue324
 t175:=Tryz.underlying282
 a175:=Tryz.isAgg282
 z175:=Tryz.sizeOf282
 v175:=Tryz.zeroValue282
 t210:=Tryz.underlying308
 a210:=Tryz.isAgg308
 z210:=Tryz.sizeOf308
 v210:=Tryz.zeroValue308
 t212:=Tryz.underlying339
 a212:=Tryz.isAgg339
 z212:=Tryz.sizeOf339
 v212:=Tryz.zeroValue339
 t213:=Tryz.underlying340
 a213:=Tryz.isAgg340
 z213:=Tryz.sizeOf340
 t232:=Tryz.underlying343
 a232:=Tryz.isAgg343
 z232:=Tryz.sizeOf343
 v232:=Tryz.zeroValue343
 t233:=Tryz.underlying344
 a233:=Tryz.isAgg344
 z233:=Tryz.sizeOf344
 v233:=Tryz.zeroValue344
 g15:=by kernel_rfl
 g16:=by kernel_rfl
 g17:=by kernel_rfl
 g18:=by kernel_rfl
 g19:=by kernel_rfl
 t80:=Tryz.underlying127
 a80:=Tryz.isAgg127
 z80:=Tryz.sizeOf127
 v80:=Tryz.zeroValue127
 i0:=by kernel_rfl
 i2:=by kernel_rfl
 i3:=by kernel_rfl
 i4:=by kernel_rfl
 i5:=by kernel_rfl
 i9:=by kernel_rfl
 i20:=by kernel_rfl
 i21:=by kernel_rfl
 i37:=by kernel_rfl
 i46:=by kernel_rfl
 i51:=by kernel_rfl
 i53:=by kernel_rfl
 i75:=by kernel_rfl
 i80:=by kernel_rfl
 i85:=by kernel_rfl
 i127:=by kernel_rfl
 i143:=by kernel_rfl
 i145:=by kernel_rfl
 i167:=by kernel_rfl
 i168:=by kernel_rfl
 i171:=by kernel_rfl
 i173:=by kernel_rfl
 i175:=by kernel_rfl
 i210:=by kernel_rfl
 i212:=by kernel_rfl
 i232:=by kernel_rfl
 i233:=by kernel_rfl
 m15:=by kernel_rfl
 m16:=by kernel_rfl
 m17:=by kernel_rfl
 m18:=by kernel_rfl
 m19:=by kernel_rfl
 c0:=by kernel_rfl
 c2:=by kernel_rfl
 c3:=by kernel_rfl
 c4:=by kernel_rfl
 c5:=by kernel_rfl
 c9:=by kernel_rfl
 c20:=by kernel_rfl
 c21:=by kernel_rfl
 c37:=by kernel_rfl
 c46:=by kernel_rfl
 c51:=by kernel_rfl
 c53:=by kernel_rfl
 c75:=by kernel_rfl
 c80:=by kernel_rfl
 c85:=by kernel_rfl
 c127:=by kernel_rfl
 c143:=by kernel_rfl
 c145:=by kernel_rfl
 c167:=by kernel_rfl
 c168:=by kernel_rfl
 c171:=by kernel_rfl
 c173:=by kernel_rfl
 c175:=by kernel_rfl
 c210:=by kernel_rfl
 c212:=by kernel_rfl
 c213:=by kernel_rfl
 c232:=by kernel_rfl
 c233:=by kernel_rfl}
open Go.RowKit in
theorem Tryz.strconv_ParseInt_10_at64_ok (s:ByteArray) (g:s.size≤9223372036854775806) (v:Int) (h:Lib.parseIntB 64 s.data.toList= .ok v) (w:World):
  Calls Tryz.prog 182 #[.string s,.int .i64 10,.int .i64 64] w fun e w' =>e= .returned (.tuple #[.int .i64 v,.nilIface])∧(w' =w∨ ∃t,w' =Lib.bytesWorld w 5 t):=Any.strconv_ParseInt_10_at64_ok Tryz.laysC174 s g v h w
open Go.RowKit in
theorem Tryz.strconv_ParseInt_10_at64_syntax (s:ByteArray) (g:s.size≤281474976710656) (h:Lib.parseIntB 64 s.data.toList=synR) (ev:Value) (w:World) (j:w.cell? ⟨5,0,none⟩=some ev) (i:ev= .nilIface∨ ∃te pe,ev= .iface te pe):
  Calls Tryz.prog 182 #[.string s,.int .i64 10,.int .i64 64] w fun e w' => ∃N,e= .returned (.tuple #[.int .i64 (0),.iface 284 (.pointer (some ⟨N,0,none⟩))])∧w.heap.size≤N∧w'.heap[N]? =some (.cells #[.string ⟨#[80,97,114,115,101,73,110,116]⟩,.string s,ev] 308 (0,0))∧Below w.heap.size w w' :=Any.strconv_ParseInt_10_at64_syntax Tryz.laysC174 s g h ev w j i
open Go.RowKit in
theorem Tryz.strconv_ParseInt_10_at64_range (s:ByteArray) (g:s.size≤281474976710656) (h:Lib.parseIntB 64 s.data.toList= .range) (ev:Value) (w:World) (j:w.cell? ⟨6,0,none⟩=some ev) (i:ev= .nilIface∨ ∃te pe,ev= .iface te pe):
  Calls Tryz.prog 182 #[.string s,.int .i64 10,.int .i64 64] w fun e w' => ∃N,e= .returned (.tuple #[.int .i64 (Lib.intSat 64 s.data.toList),.iface 284 (.pointer (some ⟨N,0,none⟩))])∧w.heap.size≤N∧w'.heap[N]? =some (.cells #[.string ⟨#[80,97,114,115,101,73,110,116]⟩,.string s,ev] 308 (0,0))∧Below w.heap.size w w' :=Any.strconv_ParseInt_10_at64_range Tryz.laysC174 s g h ev w j i
def Tryz.lays219_ren:Go.Shelf.Ren:=⟨fun|219=>156|217=>155|225=>206|224=>207|267=>208|266=>205|314=>244|n=>n,fun|9=>9|3=>3|4=>4|5=>5|46=>178|146=>266|51=>234|n=>n,fun|1=>0|n=>n⟩
theorem Tryz.lays219:Go.Proofs.Lays.n219 Tryz.prog Tryz.lays219_ren:=⟨by kernel_rfl,Tryz.func155.trans (congrArg some (by kernel_rfl)),Tryz.func156.trans (congrArg some (by kernel_rfl)),Tryz.func207.trans (congrArg some (by kernel_rfl)),Tryz.func206.trans (congrArg some (by kernel_rfl)),Tryz.func205.trans (congrArg some (by kernel_rfl)),Tryz.func208.trans (congrArg some (by kernel_rfl)),Tryz.func244.trans (congrArg some (by kernel_rfl)),Tryz.underlying3,Tryz.isAgg3,Tryz.sizeOf3,Tryz.zeroValue3,Tryz.underlying4,Tryz.isAgg4,Tryz.sizeOf4,Tryz.zeroValue4,Tryz.underlying5,Tryz.isAgg5,Tryz.sizeOf5,Tryz.zeroValue5,Tryz.underlying9,Tryz.isAgg9,Tryz.sizeOf9,Tryz.zeroValue9,Tryz.underlying178,Tryz.isAgg178,Tryz.sizeOf178,Tryz.zeroValue178,Tryz.underlying234,Tryz.isAgg234,Tryz.sizeOf234,Tryz.zeroValue234,Tryz.underlying266,Tryz.isAgg266,Tryz.sizeOf266,Tryz.zeroValue266,by kernel_rfl⟩
open Go.RowKit Go.Lib in
theorem Tryz.stringslite_Index_one (s:ByteArray) (c:UInt8) (w:World):
  Calls Tryz.prog 156 #[.string s,.string ⟨#[c]⟩] w fun e w' =>e= .returned (.int .i64 (Lib.indexByte s.data.toList c))∧w' =w:=Any.stringslite_Index_one Tryz.lays219 s c w
def Tryz.lays143_ren:Go.Shelf.Ren:=⟨fun|143=>104|219=>156|217=>155|225=>206|224=>207|267=>208|266=>205|314=>244|n=>n,fun|9=>9|3=>3|4=>4|5=>5|46=>178|146=>266|51=>234|n=>n,fun|1=>0|n=>n⟩
theorem Tryz.lays143:Go.Proofs.Lays.n143 Tryz.prog Tryz.lays143_ren:=⟨by kernel_rfl,Tryz.func104.trans (congrArg some (by kernel_rfl)),Tryz.func155.trans (congrArg some (by kernel_rfl)),Tryz.func156.trans (congrArg some (by kernel_rfl)),Tryz.func207.trans (congrArg some (by kernel_rfl)),Tryz.func206.trans (congrArg some (by kernel_rfl)),Tryz.func205.trans (congrArg some (by kernel_rfl)),Tryz.func208.trans (congrArg some (by kernel_rfl)),Tryz.func244.trans (congrArg some (by kernel_rfl)),Tryz.underlying3,Tryz.isAgg3,Tryz.sizeOf3,Tryz.zeroValue3,Tryz.underlying4,Tryz.isAgg4,Tryz.sizeOf4,Tryz.zeroValue4,Tryz.underlying5,Tryz.isAgg5,Tryz.sizeOf5,Tryz.zeroValue5,Tryz.underlying9,Tryz.isAgg9,Tryz.sizeOf9,Tryz.zeroValue9,Tryz.underlying178,Tryz.isAgg178,Tryz.sizeOf178,Tryz.zeroValue178,Tryz.underlying234,Tryz.isAgg234,Tryz.sizeOf234,Tryz.zeroValue234,Tryz.underlying266,Tryz.isAgg266,Tryz.sizeOf266,Tryz.zeroValue266,by kernel_rfl⟩
open Go.RowKit Go.Lib in
theorem Tryz.strings_Index_one (s:ByteArray) (c:UInt8) (w:World):
  Calls Tryz.prog 104 #[.string s,.string ⟨#[c]⟩] w fun e w' =>e= .returned (.int .i64 (Lib.indexByte s.data.toList c))∧w' =w:=Any.strings_Index_one Tryz.lays143 s c w
open Go.RowKit Go.Lib in
theorem Tryz.strings_Index (s sub:ByteArray) (m:Int) (w:World) (g:s.size<4294967281) (i:w.cell? ⟨0,0,none⟩=some (.int .i64 m)):
  Calls Tryz.prog 104 #[.string s,.string sub] w fun e w' =>e= .returned (.int .i64 (Lib.index s.data.toList sub.data.toList))∧w' =w:=Any.strings_Index Tryz.lays143 s sub m w g i
def Tryz.lays144_ren:Go.Shelf.Ren:=⟨fun|144=>175|143=>104|219=>156|217=>155|225=>206|224=>207|267=>208|266=>205|314=>244|n=>n,fun|9=>9|4=>4|3=>3|5=>5|46=>178|146=>266|51=>234|n=>n,fun|1=>0|n=>n⟩
theorem Tryz.lays144:Go.Proofs.Lays.n144 Tryz.prog Tryz.lays144_ren:=⟨by kernel_rfl,Tryz.func104.trans (congrArg some (by kernel_rfl)),Tryz.func175.trans (congrArg some (by kernel_rfl)),Tryz.func155.trans (congrArg some (by kernel_rfl)),Tryz.func156.trans (congrArg some (by kernel_rfl)),Tryz.func207.trans (congrArg some (by kernel_rfl)),Tryz.func206.trans (congrArg some (by kernel_rfl)),Tryz.func205.trans (congrArg some (by kernel_rfl)),Tryz.func208.trans (congrArg some (by kernel_rfl)),Tryz.func244.trans (congrArg some (by kernel_rfl)),Tryz.underlying3,Tryz.isAgg3,Tryz.sizeOf3,Tryz.zeroValue3,Tryz.underlying4,Tryz.isAgg4,Tryz.sizeOf4,Tryz.zeroValue4,Tryz.underlying5,Tryz.isAgg5,Tryz.sizeOf5,Tryz.zeroValue5,Tryz.underlying9,Tryz.isAgg9,Tryz.sizeOf9,Tryz.zeroValue9,Tryz.underlying178,Tryz.isAgg178,Tryz.sizeOf178,Tryz.zeroValue178,Tryz.underlying234,Tryz.isAgg234,Tryz.sizeOf234,Tryz.zeroValue234,Tryz.underlying266,Tryz.isAgg266,Tryz.sizeOf266,Tryz.zeroValue266,by kernel_rfl⟩
open Go.RowKit Go.Lib in
theorem Tryz.strings_Contains_one (s:ByteArray) (c:UInt8) (w:World):
  Calls Tryz.prog 175 #[.string s,.string ⟨#[c]⟩] w fun e w' =>e= .returned (.bool (decide (0≤Lib.indexByte s.data.toList c)))∧w' =w:=Any.strings_Contains_one Tryz.lays144 s c w
open Go.RowKit Go.Lib in
theorem Tryz.strings_Contains (s sub:ByteArray) (m:Int) (w:World) (g:s.size<4294967281) (i:w.cell? ⟨0,0,none⟩=some (.int .i64 m)):
  Calls Tryz.prog 175 #[.string s,.string sub] w fun e w' =>e= .returned (.bool (Lib.contains s.data.toList sub.data.toList))∧w' =w:=Any.strings_Contains Tryz.lays144 s sub m w g i
def Tryz.lays138_ren:Go.Shelf.Ren:=⟨fun|138=>154|195=>203|218=>204|143=>104|219=>156|217=>155|225=>206|224=>207|267=>208|266=>205|314=>244|n=>n,fun|9=>9|3=>3|4=>4|5=>5|0=>0|46=>178|146=>266|51=>234|n=>n,fun|1=>0|n=>n⟩
theorem Tryz.lays138:Go.Proofs.Lays.n138 Tryz.prog Tryz.lays138_ren:=⟨by kernel_rfl,Tryz.func154.trans (congrArg some (by kernel_rfl)),Tryz.func104.trans (congrArg some (by kernel_rfl)),Tryz.func203.trans (congrArg some (by kernel_rfl)),Tryz.func155.trans (congrArg some (by kernel_rfl)),Tryz.func204.trans (congrArg some (by kernel_rfl)),Tryz.func156.trans (congrArg some (by kernel_rfl)),Tryz.func207.trans (congrArg some (by kernel_rfl)),Tryz.func206.trans (congrArg some (by kernel_rfl)),Tryz.func205.trans (congrArg some (by kernel_rfl)),Tryz.func208.trans (congrArg some (by kernel_rfl)),Tryz.func244.trans (congrArg some (by kernel_rfl)),Tryz.underlying0,Tryz.isAgg0,Tryz.sizeOf0,Tryz.zeroValue0,Tryz.underlying3,Tryz.isAgg3,Tryz.sizeOf3,Tryz.zeroValue3,Tryz.underlying4,Tryz.isAgg4,Tryz.sizeOf4,Tryz.zeroValue4,Tryz.underlying5,Tryz.isAgg5,Tryz.sizeOf5,Tryz.zeroValue5,Tryz.underlying9,Tryz.isAgg9,Tryz.sizeOf9,Tryz.zeroValue9,Tryz.underlying178,Tryz.isAgg178,Tryz.sizeOf178,Tryz.zeroValue178,Tryz.underlying234,Tryz.isAgg234,Tryz.sizeOf234,Tryz.zeroValue234,Tryz.underlying266,Tryz.isAgg266,Tryz.sizeOf266,Tryz.zeroValue266,by kernel_rfl⟩
open Go.RowKit Go.Lib in
theorem Tryz.strings_Count_one (s:ByteArray) (c:UInt8) (w:World):
  Calls Tryz.prog 154 #[.string s,.string ⟨#[c]⟩] w fun e w' =>e= .returned (.int .i64 (Lib.countByte s.data.toList c))∧w' =w:=Any.strings_Count_one Tryz.lays138 s c w
def Tryz.lays100_ren:Go.Shelf.Ren:=⟨fun|100=>107|207=>157|n=>n,fun|9=>9|4=>4|3=>3|n=>n,fun|n=>n⟩
theorem Tryz.lays100:Go.Proofs.Lays.n100 Tryz.prog Tryz.lays100_ren:=⟨by kernel_rfl,Tryz.func107.trans (congrArg some (by kernel_rfl)),Tryz.func157.trans (congrArg some (by kernel_rfl)),Tryz.underlying3,Tryz.isAgg3,Tryz.sizeOf3,Tryz.zeroValue3,Tryz.underlying4,Tryz.isAgg4,Tryz.sizeOf4,Tryz.zeroValue4,Tryz.underlying9,Tryz.isAgg9,Tryz.sizeOf9,Tryz.zeroValue9⟩
open Go.RowKit Go.Lib in
theorem Tryz.strings_HasSuffix (s p:ByteArray) (w:World) (g:s.size≤9223372036854775807):
  Calls Tryz.prog 107 #[.string s,.string p] w fun e w' =>e= .returned (.bool (Lib.hasSuffix s.data.toList p.data.toList))∧w' =w:=Any.strings_HasSuffix Tryz.lays100 s p w g
def Tryz.lays221_ren:Go.Shelf.Ren:=⟨fun|221=>98|268=>153|138=>154|143=>104|195=>203|197=>200|218=>204|219=>156|260=>243|217=>155|225=>206|224=>207|267=>208|266=>205|314=>244|n=>n,fun|9=>9|3=>3|31=>37|4=>4|0=>0|105=>237|21=>21|5=>5|46=>178|119=>290|139=>293|138=>292|146=>266|51=>234|n=>n,fun|1=>0|3=>2|4=>3|n=>n⟩
theorem Tryz.lays221:Go.Proofs.Lays.n221 Tryz.prog Tryz.lays221_ren:={
 mixed:=by kernel_rfl
 f138:=Tryz.func154.trans (congrArg some (by kernel_rfl))
 f143:=Tryz.func104.trans (congrArg some (by kernel_rfl))
 f195:=Tryz.func203.trans (congrArg some (by kernel_rfl))
 f197:=Tryz.func200.trans (congrArg some (by kernel_rfl))
 f217:=Tryz.func155.trans (congrArg some (by kernel_rfl))
 f218:=Tryz.func204.trans (congrArg some (by kernel_rfl))
 f219:=Tryz.func156.trans (congrArg some (by kernel_rfl))
 f221:=Tryz.func98.trans (congrArg some (by kernel_rfl))
 f224:=Tryz.func207.trans (congrArg some (by kernel_rfl))
 f225:=Tryz.func206.trans (congrArg some (by kernel_rfl))
 f260:=Tryz.func243.trans (congrArg some (by kernel_rfl))
 f266:=Tryz.func205.trans (congrArg some (by kernel_rfl))
 f267:=Tryz.func208.trans (congrArg some (by kernel_rfl))
 f268:=Tryz.func153.trans (congrArg some (by kernel_rfl))
 f314:=Tryz.func244.trans (congrArg some (by kernel_rfl))
 t0:=Tryz.underlying0
 a0:=Tryz.isAgg0
 z0:=Tryz.sizeOf0
 v0:=Tryz.zeroValue0
 t3:=Tryz.underlying3
 a3:=Tryz.isAgg3
 z3:=Tryz.sizeOf3
 v3:=Tryz.zeroValue3
 t4:=Tryz.underlying4
 a4:=Tryz.isAgg4
 z4:=Tryz.sizeOf4
 v4:=Tryz.zeroValue4
 t5:=Tryz.underlying5
 a5:=Tryz.isAgg5
 z5:=Tryz.sizeOf5
 v5:=Tryz.zeroValue5
 t9:=Tryz.underlying9
 a9:=Tryz.isAgg9
 z9:=Tryz.sizeOf9
 v9:=Tryz.zeroValue9
 t21:=Tryz.underlying21
 a21:=Tryz.isAgg21
 z21:=Tryz.sizeOf21
 v21:=Tryz.zeroValue21
 t31:=Tryz.underlying37
 a31:=Tryz.isAgg37
 z31:=Tryz.sizeOf37
 v31:=Tryz.zeroValue37
 t46:=Tryz.underlying178
 a46:=Tryz.isAgg178
 z46:=Tryz.sizeOf178
 v46:=Tryz.zeroValue178
 t51:=Tryz.underlying234
 a51:=Tryz.isAgg234
 z51:=Tryz.sizeOf234
 v51:=Tryz.zeroValue234
 t105:=Tryz.underlying237
 a105:=Tryz.isAgg237
 z105:=Tryz.sizeOf237
 v105:=Tryz.zeroValue237
 t119:=Tryz.underlying290
 a119:=Tryz.isAgg290
 z119:=Tryz.sizeOf290
 t138:=Tryz.underlying292
 a138:=Tryz.isAgg292
 z138:=Tryz.sizeOf292
 v138:=Tryz.zeroValue292
 t139:=Tryz.underlying293
 a139:=Tryz.isAgg293
 z139:=Tryz.sizeOf293
 v139:=Tryz.zeroValue293
 t146:=Tryz.underlying266
 a146:=Tryz.isAgg266
 z146:=Tryz.sizeOf266
 v146:=Tryz.zeroValue266
 g1:=by kernel_rfl
 g3:=by kernel_rfl
 g4:=by kernel_rfl}
end Go.Proofs
