/- Part 35. -/
import Derived.Test.YtbgflifmanjpjaaGreatDoorS34
set_option linter.unusedSimpArgs false
set_option linter.unusedVariables false
namespace Go.Proofs.YtbgflifmanjpjaaGreatDoor
set_option maxRecDepth 100000
def mU0:List Nat:= [2000216,2000213,2000158,2000290,2000289,2000264,2000245,2000215,2000059,2000112,2000058,2000159,2000110,2000105]
def vH:ACode:=
 .seq (gQ [⟨gO,.mov 2 (.k (.bool false))⟩]) (.seq (gQ [gM 3 0,⟨gO,gB 4 .geq (.s 3) (.k (.int .u8 97))⟩,gM 5 4,gN 5 true 6 0,⟨some (5,true),.bin 7 .leq false (.s 6) (.k (.int .u8 122))⟩,⟨gO,.pick 8 (.s 5) (.s 7) (.k (.bool false))⟩,gM 9 8,gN 9 false 10 0,⟨some (9,false),.bin 11 .geq false (.s 10) (.k (.int .u8 65))⟩,gN 9 false 12 11,gN 12 true 13 0,⟨some (12,true),.bin 14 .leq false (.s 13) (.k (.int .u8 90))⟩,⟨some (9,false),.pick 15 (.s 12) (.s 14) (.k (.bool false))⟩,⟨gO,.pick 16 (.s 9) (.k (.bool true)) (.s 15)⟩,gM 17 16,gN 17 false 18 0,⟨some (17,false),.bin 19 .eql false (.s 18) (.k (.int .u8 95))⟩,⟨gO,.pick 20 (.s 17) (.k (.bool true)) (.s 19)⟩,gM 2 20]) .ret)
def vI:AFn:=⟨1,21,vH,[.tmp 2]⟩
theorem pj:ax Tryz.prog mU0 Tryz.f210=some vI:=kk
theorem pk:aa Tryz.prog 210=true:=kk
def zN:ACode:=
 .seq (gQ [⟨gO,.mov 2 (.k (.bool false))⟩]) (.seq (gQ [gM 3 0,gC 4 210 [.s 3],gM 5 4,gN 5 false 6 0,⟨some (5,false),.bin 7 .geq false (.s 6) (.k (.int .u8 48))⟩,gN 5 false 8 7,gN 8 true 9 0,⟨some (8,true),.bin 10 .leq false (.s 9) (.k (.int .u8 57))⟩,⟨some (5,false),.pick 11 (.s 8) (.s 10) (.k (.bool false))⟩,⟨gO,.pick 12 (.s 5) (.k (.bool true)) (.s 11)⟩,gM 2 12]) .ret)
def zO:AFn:=⟨1,13,zN,[.tmp 2]⟩
theorem sX:ax Tryz.prog mU0 Tryz.f209=some zO:=kk
theorem sY:aa Tryz.prog 209=true:=kk
def zP:ACode:=
 .seq (gQ [⟨gO,.mov 2 (.k (.bool false))⟩]) (.seq (.seq (gQ [gM 4 0,gH 5 true 4,gJ 6 0]) (.block 0 (.loop (.seq (gQ [gV 7 .lss 6 5]) (.seq (.cond (.s 7) .skip (.exit 0)) (.seq (.block 1 (.seq (gQ [gM 8 6,gM 3 8]) (.seq (gQ [gM 9 0,gM 10 3,⟨gO,.bidx 11 (.s 9) (.s 10)⟩,gC 12 209 [.s 11],⟨gO,.un 13 .not (.s 12)⟩,gM 14 13,gN 14 false 15 3,⟨some (14,false),.bin 16 .eql false (.s 15) (gI 0)⟩,gN 14 false 17 16,gN 17 true 18 0,gN 17 true 19 3,⟨some (17,true),.bidx 20 (.s 18) (.s 19)⟩,⟨some (17,true),.call (some 21) (.k (.fn 210 [])) [.s 20]⟩,⟨some (17,true),.un 22 .not (.s 21)⟩,⟨some (14,false),.pick 23 (.s 17) (.s 22) (.k (.bool false))⟩,⟨gO,.pick 24 (.s 14) (.k (.bool true)) (.s 23)⟩]) (.cond (.s 24) (.seq (gQ [⟨gO,.mov 2 (.k (.bool false))⟩]) .ret) .skip)))) (.reg [gU 25 .add 6 1,gM 6 25]))))))) (.seq (gQ [gM 26 0,⟨gO,gB 27 .neq (.s 26) (gS ⟨#[]⟩)⟩,gM 28 27,gN 28 true 29 0,⟨some (28,true),.len 30 true (.s 29)⟩,⟨some (28,true),.bin 31 .leq false (.s 30) (gI 256)⟩,⟨gO,.pick 32 (.s 28) (.s 31) (.k (.bool false))⟩,gM 2 32]) .ret))
def zQ:AFn:=⟨1,33,zP,[.tmp 2]⟩
theorem sZ:ax Tryz.prog mU0 Tryz.f211=some zQ:=kk
theorem s4:aa Tryz.prog 211=true:=kk
def dy:ACode:=
 .seq (gQ [⟨gO,.alloc 4 [.int .i64 0,.int .i64 0,.bool false,.int .i64 0,.str ⟨#[]⟩,.lst .nil 6 [],.lst .nil 7 [],.str ⟨#[]⟩,.lst .nil 1 [],.lst .nil 10 []]⟩]) (.seq (.seq (gQ [gM 5 0,gF 6 0 5,gF 7 2 6,gL 8 7,gU 9 .eql 8 0]) (.cond (.s 9) (.reg [gM 10 0,gM 11 1,gF 12 0 10,gF 13 2 12,gT 1 13 11]) .skip)) (.seq (gQ [gM 14 0,gF 15 0 14,gF 16 0 15,⟨gO,.st 1 (.s 16) (gS ⟨#[]⟩)⟩]) (.seq (gQ [⟨gO,.build 17 [.int .i64 0,.int .i64 0,.bool false,.int .i64 0,.str ⟨#[]⟩,.lst .nil 6 [],.lst .nil 7 [],.str ⟨#[]⟩,.lst .nil 1 [],.lst .nil 10 []] []⟩,gT 10 4 17]) .ret)))
def mL:AFn:=⟨2,18,dy,[.cell 4 10 true]⟩
theorem j9:ax Tryz.prog mU0 Tryz.f216=some mL:=kk
theorem ka:aa Tryz.prog 216=true:=kk
def dz:ACode:=
 .reg [gM 2 0,gM 3 0,gF 4 0 3,gF 5 0 4,gL 6 5,⟨gO,.call (some 7) (.k (.fn 89 [])) [.s 6,gS ⟨#[32,9,10]⟩]⟩,gF 8 0 2,gF 9 0 8,gT 1 9 7]
def mM:AFn:=⟨1,10,dz,[]⟩
theorem kb:ax Tryz.prog mU0 Tryz.f213=some mM:=kk
theorem kc:aa Tryz.prog 213=true:=kk
def dA:ACode:=
 .seq (gQ [⟨gO,.mov 2 (gS ⟨#[]⟩)⟩]) (.seq (gQ [gJ 3 0]) (.seq (.block 0 (.loop (.seq (.seq (gQ [gM 5 3,gM 6 0,gF 7 0 6,gF 8 0 7,gL 9 8,gH 10 true 9,gV 11 .lss 5 10,gM 12 11,gN 12 true 13 0,⟨some (12,true),.off 14 0 (.s 13)⟩,⟨some (12,true),.off 15 0 (.s 14)⟩,⟨some (12,true),.ld 16 1 false (.s 15)⟩,gN 12 true 17 3,⟨some (12,true),.bidx 18 (.s 16) (.s 17)⟩,⟨some (12,true),.call (some 19) (.k (.fn 209 [])) [.s 18]⟩,⟨gO,.pick 20 (.s 12) (.s 19) (.k (.bool false))⟩,gM 21 20,gN 21 true 22 3,⟨some (21,true),.bin 23 .gtr false (.s 22) (gI 0)⟩,gN 21 true 24 23,gN 24 false 25 0,⟨some (24,false),.off 26 0 (.s 25)⟩,⟨some (24,false),.off 27 0 (.s 26)⟩,⟨some (24,false),.ld 28 1 false (.s 27)⟩,gN 24 false 29 3,⟨some (24,false),.bidx 30 (.s 28) (.s 29)⟩,⟨some (24,false),.call (some 31) (.k (.fn 210 [])) [.s 30]⟩,⟨some (21,true),.pick 32 (.s 24) (.k (.bool true)) (.s 31)⟩,⟨gO,.pick 33 (.s 21) (.s 32) (.k (.bool false))⟩]) (.cond (.s 33) .skip (.exit 0))) (.block 1 (.reg [gM 34 3,gU 35 .add 34 1,gM 3 35]))))) (.seq (gQ [gM 36 0,gF 37 0 36,gF 38 0 37,gL 39 38,gM 40 3,⟨gO,.sub 41 true 0 (.s 39) none (some (.s 40))⟩,gM 4 41]) (.seq (gQ [gM 42 0,gM 43 0,gF 44 0 43,gF 45 0 44,gL 46 45,gM 47 3,⟨gO,.sub 48 true 0 (.s 46) (some (.s 47)) none⟩,gF 49 0 42,gF 50 0 49,gT 1 50 48]) (.seq (gQ [gM 51 4,gM 2 51]) .ret)))))
def mO:AFn:=⟨1,52,dA,[.tmp 2]⟩
theorem kd:ax Tryz.prog mU0 Tryz.f158=some mO:=kk
theorem ke:aa Tryz.prog 158=true:=kk
def c7:ACode:=
 .seq (gQ [⟨gO,.mov 2 (.k (.lst .nil 1 []))⟩]) (.seq (gQ [⟨gO,.mov 3 (.k (.lst .nil 1 []))⟩]) (.seq (.block 0 (.loop (.seq (.seq (gQ [gM 4 0,gF 5 0 4,gF 6 0 5,gL 7 6,gH 8 true 7,gU 9 .gtr 8 1,gM 10 9,gN 10 true 11 0,⟨some (10,true),.off 12 0 (.s 11)⟩,⟨some (10,true),.off 13 0 (.s 12)⟩,⟨some (10,true),.ld 14 1 false (.s 13)⟩,⟨some (10,true),.bidx 15 (.s 14) (gI 0)⟩,⟨some (10,true),.bin 16 .eql false (.s 15) (.k (.int .u8 46))⟩,⟨gO,.pick 17 (.s 10) (.s 16) (.k (.bool false))⟩,gM 18 17,gN 18 true 19 0,⟨some (18,true),.off 20 0 (.s 19)⟩,⟨some (18,true),.off 21 0 (.s 20)⟩,⟨some (18,true),.ld 22 1 false (.s 21)⟩,⟨some (18,true),.bidx 23 (.s 22) (gI 1)⟩,⟨some (18,true),.call (some 24) (.k (.fn 210 [])) [.s 23]⟩,⟨gO,.pick 25 (.s 18) (.s 24) (.k (.bool false))⟩]) (.cond (.s 25) .skip (.exit 0))) (.block 1 (.seq (gQ [gM 26 0,gM 27 0,gF 28 0 27,gF 29 0 28,gL 30 29,⟨gO,.sub 31 true 0 (.s 30) (some (gI 1)) none⟩,gF 32 0 26,gF 33 0 32,gT 1 33 31]) (.reg [gM 34 3,gM 35 0,⟨gO,.calls (some 36) (.k (.fn 158 [])) [.s 35]⟩,⟨gO,.bsl 37 1 1 [.str ⟨#[]⟩] [(0,1,.s 36)]⟩,⟨gO,.app 38 1 16 (.s 34) (.s 37)⟩,gM 3 38])))))) (.seq (gQ [gM 39 3,gM 2 39]) .ret)))
def lZ:AFn:=⟨1,40,c7,[.tmp 2]⟩
theorem jo:ax Tryz.prog mU0 Tryz.f290=some lZ:=kk
theorem jp:aa Tryz.prog 290=true:=kk
def cM:ACode:=
 .seq (gQ [⟨gO,.alloc 2 [.int .i64 0,.int .i64 0,.bool false,.int .i64 0,.str ⟨#[]⟩,.lst .nil 6 [],.lst .nil 7 [],.str ⟨#[]⟩,.lst .nil 1 [],.lst .nil 10 []]⟩]) (.seq (gQ [gJ 3 1]) (.seq (.block 0 (.loop (.seq (.seq (gQ [gM 6 3,gM 7 0,gF 8 0 7,gF 9 0 8,gL 10 9,gH 11 true 10,gV 12 .lss 6 11,gM 13 12,gN 13 true 14 0,⟨some (13,true),.off 15 0 (.s 14)⟩,⟨some (13,true),.off 16 0 (.s 15)⟩,⟨some (13,true),.ld 17 1 false (.s 16)⟩,gN 13 true 18 3,⟨some (13,true),.bidx 19 (.s 17) (.s 18)⟩,⟨some (13,true),.bin 20 .geq false (.s 19) (.k (.int .u8 48))⟩,⟨gO,.pick 21 (.s 13) (.s 20) (.k (.bool false))⟩,gM 22 21,gN 22 true 23 0,⟨some (22,true),.off 24 0 (.s 23)⟩,⟨some (22,true),.off 25 0 (.s 24)⟩,⟨some (22,true),.ld 26 1 false (.s 25)⟩,gN 22 true 27 3,⟨some (22,true),.bidx 28 (.s 26) (.s 27)⟩,⟨some (22,true),.bin 29 .leq false (.s 28) (.k (.int .u8 57))⟩,⟨gO,.pick 30 (.s 22) (.s 29) (.k (.bool false))⟩]) (.cond (.s 30) .skip (.exit 0))) (.block 1 (.reg [gM 31 3,gU 32 .add 31 1,gM 3 32]))))) (.seq (gQ [gM 34 0,gF 35 0 34,gF 36 0 35,gL 37 36,gM 38 3,⟨gO,.sub 39 true 0 (.s 37) none (some (.s 38))⟩,gC 40 125 [.s 39],gM 33 40,gX 41 0 33,gX 42 1 33,⟨gO,.alloc 4 gZ⟩,gT 6 4 41,gM 5 42]) (.seq (.seq (gQ [gM 43 5,gU 44 .neq 43 0,gM 45 44,⟨some (45,false),.off 46 0 (.s 4)⟩,⟨some (45,false),.ld 47 1 false (.s 46)⟩,⟨some (45,false),.bin 48 .neq false (.s 47) (gI 2)⟩,⟨gO,.pick 49 (.s 45) (.k (.bool true)) (.s 48)⟩]) (.cond (.s 49) (.seq (gQ [gM 50 0,gM 51 5,⟨gO,.bsl 52 2 1 [.int .i64 0,.int .i64 0] [(0,1,.s 51),(1,1,gI 20)]⟩,gC 53 212 [.s 52],⟨gO,.calls (some 54) (.k (.fn 216 [])) [.s 50,.s 53]⟩,gT 10 2 54]) .ret) .skip)) (.seq (gQ [gM 55 0,gM 56 0,gF 57 0 56,gF 58 0 57,gL 59 58,gM 60 3,⟨gO,.sub 61 true 0 (.s 59) (some (.s 60)) none⟩,gF 62 0 55,gF 63 0 62,gT 1 63 61]) (.seq (gQ [gA 64 6 4,⟨gO,.build 65 [.int .i64 0,.int .i64 0,.bool false,.int .i64 0,.str ⟨#[]⟩,.lst .nil 6 [],.lst .nil 7 [],.str ⟨#[]⟩,.lst .nil 1 [],.lst .nil 10 []] [(1,6,.s 64)]⟩,gT 10 2 65]) .ret))))))
def k7:AFn:=⟨1,66,cM,[.cell 2 10 true]⟩
theorem iM:ax Tryz.prog mU0 Tryz.f289=some k7:=kk
theorem iN:aa Tryz.prog 289=true:=kk
def qO:ACode:=
 .seq (gQ [⟨gO,.mov 2 (gS ⟨#[]⟩)⟩,⟨gO,.mov 3 (gS ⟨#[]⟩)⟩,⟨gO,.mov 4 (.k (.bool false))⟩]) (.seq (gQ [gM 9 0,⟨gO,.call (some 10) (.k (.fn 89 [])) [.s 9,gS ⟨#[32,9,10]⟩]⟩,⟨gO,.call (some 11) (.k (.fn 161 [])) [.s 10,gS ⟨#[36]⟩]⟩,gM 8 11,gX 12 0 8,gX 13 1 8,gM 0 12,gM 5 13]) (.seq (.seq (gQ [gM 14 5,⟨gO,.un 15 .not (.s 14)⟩]) (.cond (.s 15) (.seq (gQ [⟨gO,.mov 2 (gS ⟨#[]⟩)⟩,⟨gO,.mov 3 (gS ⟨#[]⟩)⟩,⟨gO,.mov 4 (.k (.bool false))⟩]) .ret) .skip)) (.seq (gQ [gM 16 0,⟨gO,.build 17 [.str ⟨#[]⟩,.int .i64 0,.int .i64 0] [(0,1,.s 16)]⟩,gP 18 17,gM 6 18]) (.seq (gQ [gM 19 6,⟨gO,.calls (some 20) (.k (.fn 158 [])) [.s 19]⟩,gM 7 20]) (.seq (gQ [gM 21 6,⟨gO,.calls (some 22) (.k (.fn 213 [])) [.s 21]⟩]) (.seq (gQ [gM 23 7,gM 24 6,gF 25 0 24,gF 26 0 25,gL 27 26,gM 28 7,⟨gO,gB 29 .neq (.s 28) (gS ⟨#[]⟩)⟩,gM 2 23,gM 3 27,gM 4 29]) .ret))))))
def qP:AFn:=⟨1,30,qO,[.tmp 2,.tmp 3,.tmp 4]⟩
theorem mP:ax Tryz.prog mU0 Tryz.f160=some qP:=kk
theorem mQ:aa Tryz.prog 160=true:=kk
def BJ:ACode:=
 .seq (gQ [⟨gO,.mov 2 (gS ⟨#[]⟩)⟩,⟨gO,.mov 3 (gS ⟨#[]⟩)⟩,⟨gO,.mov 4 (.k (.bool false))⟩]) (.seq (.seq (gQ [gM 6 0,gC 7 160 [.s 6],gM 5 7,gX 8 0 5,gX 9 1 5,gX 10 2 5,gM 2 8,gM 3 9,gM 4 10]) (.seq (gQ [gM 11 4]) (.cond (.s 11) (.reg [gM 13 3,⟨gO,.call (some 14) (.k (.fn 161 [])) [.s 13,gS ⟨#[58,61]⟩]⟩,gM 12 14,gX 15 0 12,gX 16 1 12,gM 3 15,gM 4 16]) .skip))) (.seq (gQ [gM 17 2,gM 18 3,gM 19 4,gM 2 17,gM 3 18,gM 4 19]) .ret))
def BK:AFn:=⟨1,20,BJ,[.tmp 2,.tmp 3,.tmp 4]⟩
theorem vJ:ax Tryz.prog mU0 Tryz.f111=some BK:=kk
theorem vK:aa Tryz.prog 111=true:=kk
def zR:ACode:=
 .seq (gQ [⟨gO,.mov 2 (gS ⟨#[]⟩)⟩,⟨gO,.mov 3 (gS ⟨#[]⟩)⟩]) (.seq (gQ [gM 6 0,⟨gO,.build 7 [.str ⟨#[]⟩,.int .i64 0,.int .i64 0] [(0,1,.s 6)]⟩,gP 8 7,gM 4 8]) (.seq (gQ [gM 9 4,⟨gO,.calls (some 10) (.k (.fn 158 [])) [.s 9]⟩,gM 5 10]) (.seq (gQ [gM 11 5,gM 12 4,gF 13 0 12,gF 14 0 13,gL 15 14,gM 2 11,gM 3 15]) .ret)))
def zS:AFn:=⟨1,16,zR,[.tmp 2,.tmp 3]⟩
theorem s5:ax Tryz.prog mU0 Tryz.f109=some zS:=kk
theorem s6:aa Tryz.prog 109=true:=kk
def vL:ACode:=
 .seq (gQ [gJ 2 0]) (.seq (gQ [gJ 3 0]) (.seq (.seq (gQ [gM 6 0,gH 7 false 6,gJ 8 0]) (.block 0 (.loop (.seq (gQ [gV 9 .lss 8 7]) (.seq (.cond (.s 9) .skip (.exit 0)) (.seq (.block 1 (.seq (gQ [gE 10 1 6 8,gL 11 10,gM 5 11]) (.seq (gQ [gM 12 5,gM 13 3,gV 14 .neq 12 13]) (.cond (.s 14) (.seq (gQ [gM 15 5,gM 2 15]) .ret) .skip)))) (.reg [gU 16 .add 8 1,gM 8 16]))))))) (.seq (gQ [gM 17 3,gM 2 17]) .ret)))
def vM:AFn:=⟨1,18,vL,[.tmp 2]⟩
theorem pm:ax Tryz.prog mU0 Tryz.f212=some vM:=kk
theorem pn:aa Tryz.prog 212=true:=kk
end Go.Proofs.YtbgflifmanjpjaaGreatDoor
