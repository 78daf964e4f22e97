/- Part 8. -/
import Derived.Test.YtbgflifmanjpjaaGreatDoorS7
import Derived.Test.YtbgflifmanjpjaaGreatDoorChecked
import Derived.KernelRfl
set_option linter.unusedSimpArgs false
set_option linter.unusedVariables false
namespace Go.Proofs.YtbgflifmanjpjaaGreatDoor
section
set_option maxRecDepth 100000
def sa:ACode:=
 .seq (gQ [⟨gO,.mov 2 (.k (.bool false))⟩]) (.seq (gQ [gM 3 0,⟨gO,gB 4 .geq (.s 3) (.k (.int .u8 97))⟩,gM 5 4,gN 5 true 6 0,⟨some (5,true),.bin 7 .leq false (.s 6) (.k (.int .u8 122))⟩,⟨gO,.pick 8 (.s 5) (.s 7) (.k (.bool false))⟩,gM 9 8,gN 9 false 10 0,⟨some (9,false),.bin 11 .geq false (.s 10) (.k (.int .u8 65))⟩,gN 9 false 12 11,gN 12 true 13 0,⟨some (12,true),.bin 14 .leq false (.s 13) (.k (.int .u8 90))⟩,⟨some (9,false),.pick 15 (.s 12) (.s 14) (.k (.bool false))⟩,⟨gO,.pick 16 (.s 9) (.k (.bool true)) (.s 15)⟩,gM 2 16]) .ret)
def sd:AFn:=⟨1,17,sa,[.tmp 2]⟩
theorem nG:ax Tryz.prog [] Tryz.f99=some sd:=kk
theorem nH:aa Tryz.prog 99=true:=kk
def ur:ACode:=
 .seq (gQ [⟨gO,.mov 2 (.k (.bool false))⟩]) (.seq (gQ [gM 3 0,⟨gO,gB 4 .geq (.s 3) (.k (.int .u8 48))⟩,gM 5 4,gN 5 true 6 0,⟨some (5,true),.bin 7 .leq false (.s 6) (.k (.int .u8 57))⟩,⟨gO,.pick 8 (.s 5) (.s 7) (.k (.bool false))⟩,gM 2 8]) .ret)
def ut:AFn:=⟨1,9,ur,[.tmp 2]⟩
theorem oN:ax Tryz.prog [] Tryz.f100=some ut:=kk
theorem oO:aa Tryz.prog 100=true:=kk
def wi:ACode:=
 .seq (gQ [⟨gO,.mov 2 (.k (.bool false))⟩]) (.seq (.seq (gQ [gM 5 0,gH 6 true 5,gJ 7 0]) (.block 0 (.loop (.seq (gQ [gV 8 .lss 7 6]) (.seq (.cond (.s 8) .skip (.exit 0)) (.seq (.block 1 (.seq (gQ [gM 9 7,gM 3 9]) (.seq (gQ [gM 10 0,gM 11 3,⟨gO,.bidx 12 (.s 10) (.s 11)⟩,gM 4 12]) (.seq (gQ [gM 13 4,gC 14 99 [.s 13],⟨gO,.un 15 .not (.s 14)⟩,gM 16 15,gN 16 true 17 3,⟨some (16,true),.bin 18 .eql false (.s 17) (gI 0)⟩,gN 16 true 19 18,gN 19 false 20 4,⟨some (19,false),.call (some 21) (.k (.fn 100 [])) [.s 20]⟩,⟨some (19,false),.un 22 .not (.s 21)⟩,gN 19 false 23 22,gN 23 true 24 4,⟨some (23,true),.call (some 25) (.k (.fn 101 [])) [gS ⟨#[95,45,46,47]⟩,.s 24]⟩,⟨some (23,true),.bin 26 .lss false (.s 25) (gI 0)⟩,⟨some (19,false),.pick 27 (.s 23) (.s 26) (.k (.bool false))⟩,⟨some (16,true),.pick 28 (.s 19) (.k (.bool true)) (.s 27)⟩,⟨gO,.pick 29 (.s 16) (.s 28) (.k (.bool false))⟩]) (.cond (.s 29) (.seq (gQ [⟨gO,.mov 2 (.k (.bool false))⟩]) .ret) .skip))))) (.reg [gU 30 .add 7 1,gM 7 30]))))))) (.seq (.seq (gQ [gM 31 0]) (.block 2 (.seq (.seq (gQ [⟨gO,gB 33 .eql (.s 31) (gS ⟨#[]⟩)⟩,gM 32 33]) (.cond (.s 32) .skip (.seq (gQ [⟨gO,gB 34 .eql (.s 31) (gS ⟨#[110,117,108,108]⟩)⟩,gM 32 34]) (.cond (.s 32) .skip (.seq (gQ [⟨gO,gB 35 .eql (.s 31) (gS ⟨#[116,114,117,101]⟩)⟩,gM 32 35]) (.cond (.s 32) .skip (.reg [⟨gO,gB 36 .eql (.s 31) (gS ⟨#[102,97,108,115,101]⟩)⟩,gM 32 36]))))))) (.cond (.s 32) (.seq (gQ [⟨gO,.mov 2 (.k (.bool false))⟩]) .ret) .skip)))) (.seq (gQ [⟨gO,.mov 2 (.k (.bool true))⟩]) .ret)))
def wj:AFn:=⟨1,37,wi,[.tmp 2]⟩
theorem pY:ax Tryz.prog [] Tryz.f53=some wj:=kk
theorem pZ:aa Tryz.prog 53=true:=kk
def AD:ACode:=
 .seq (gQ [⟨gO,.mov 2 (.k (.bool false))⟩]) (.seq (.seq (gQ [gM 5 0,gH 6 true 5,gJ 7 0]) (.block 0 (.loop (.seq (gQ [gV 8 .lss 7 6]) (.seq (.cond (.s 8) .skip (.exit 0)) (.seq (.block 1 (.seq (gQ [gM 9 7,gM 3 9]) (.seq (gQ [gM 10 0,gM 11 3,⟨gO,.bidx 12 (.s 10) (.s 11)⟩,gM 4 12]) (.seq (gQ [gM 13 4,⟨gO,gB 14 .lss (.s 13) (.k (.int .u8 32))⟩,gM 15 14,gN 15 true 16 4,⟨some (15,true),.bin 17 .neq false (.s 16) (.k (.int .u8 10))⟩,⟨gO,.pick 18 (.s 15) (.s 17) (.k (.bool false))⟩,gM 19 18,gN 19 true 20 4,⟨some (19,true),.bin 21 .neq false (.s 20) (.k (.int .u8 9))⟩,⟨gO,.pick 22 (.s 19) (.s 21) (.k (.bool false))⟩,gM 23 22,gN 23 false 24 4,⟨some (23,false),.bin 25 .gtr false (.s 24) (.k (.int .u8 126))⟩,⟨gO,.pick 26 (.s 23) (.k (.bool true)) (.s 25)⟩]) (.cond (.s 26) (.seq (gQ [⟨gO,.mov 2 (.k (.bool false))⟩]) .ret) .skip))))) (.reg [gU 27 .add 7 1,gM 7 27]))))))) (.seq (gQ [gM 28 0,gH 29 true 28,gU 30 .leq 29 65536,gM 2 30]) .ret))
def AE:AFn:=⟨1,31,AD,[.tmp 2]⟩
theorem uu:ax Tryz.prog [] Tryz.f151=some AE:=kk
theorem uv:aa Tryz.prog 151=true:=kk
def CU:ACode:=
 .seq (gQ [⟨gO,.alloc 2 gZ⟩]) (.seq (gQ [gM 3 0,⟨gO,.build 4 gZ [(0,1,gI 3),(3,1,.s 3)]⟩,gT 6 2 4]) .ret)
def CV:AFn:=⟨1,5,CU,[.cell 2 6 true]⟩
theorem wk:ax Tryz.prog [] Tryz.f45=some CV:=kk
theorem wl:aa Tryz.prog 45=true:=kk
def AF:ACode:=
 .seq (gQ [⟨gO,.alloc 0 gZ⟩]) (.seq (gQ [⟨gO,.build 1 gZ []⟩,gT 6 0 1]) .ret)
def AG:AFn:=⟨0,2,AF,[.cell 0 6 true]⟩
theorem uw:ax Tryz.prog [] Tryz.f44=some AG:=kk
theorem ux:aa Tryz.prog 44=true:=kk
def AH:ACode:=
 .seq (gQ [⟨gO,.alloc 2 gZ⟩]) (.seq (gQ [gM 3 0,⟨gO,.build 4 gZ [(0,1,gI 1),(1,1,.s 3)]⟩,gT 6 2 4]) .ret)
def AJ:AFn:=⟨1,5,AH,[.cell 2 6 true]⟩
theorem uy:ax Tryz.prog [] Tryz.f180=some AJ:=kk
theorem uz:aa Tryz.prog 180=true:=kk
def lG:ACode:=
 .seq (gQ [⟨gO,.alloc 2 gZ⟩]) (.seq (gQ [⟨gO,.build 6 gZ [(0,1,gI 4)]⟩,⟨gO,.alloc 3 gZ⟩,gT 6 3 6]) (.seq (.seq (gQ [gM 7 0,gH 8 false 7,gJ 9 0]) (.block 0 (.loop (.seq (gQ [gV 10 .lss 9 8]) (.seq (.cond (.s 10) .skip (.exit 0)) (.seq (.block 1 (.seq (gQ [gE 11 6 7 9,gA 12 6 11,⟨gO,.alloc 5 gZ⟩,gT 6 5 12]) (.reg [gF 13 4 3,gL 14 13,gA 15 6 5,gC 16 78 [.s 15],⟨gO,.bsl 17 1 6 gZ [(0,6,.s 16)]⟩,⟨gO,.app 18 6 88 (.s 14) (.s 17)⟩,gF 19 4 3,gT 1 19 18]))) (.reg [gU 20 .add 9 1,gM 9 20]))))))) (.seq (gQ [gA 21 6 3,gT 6 2 21]) .ret)))
def AL:AFn:=⟨1,22,lG,[.cell 2 6 true]⟩
theorem uA:ax Tryz.prog [] Tryz.f147=some AL:=kk
theorem uB:aa Tryz.prog 147=true:=kk
def lH:ACode:=
 .seq (gQ [⟨gO,.mov 4 (gS ⟨#[]⟩)⟩]) (.seq (gQ [gM 5 0,gM 6 1,gC 7 102 [.s 5,.s 6],gM 4 7]) .ret)
def lI:AFn:=⟨2,8,lH,[.tmp 4]⟩
theorem i8:ax Tryz.prog [] Tryz.f54=some lI:=kk
theorem ja:aa Tryz.prog 54=true:=kk
def iG:ACode:=
 .seq (gQ [⟨gO,.mov 4 (gS ⟨#[]⟩)⟩]) (.seq (.seq (gQ [gM 5 0,gM 6 1,gC 7 86 [.s 5,.s 6]]) (.cond (.s 7) (.seq (gQ [gM 8 0,gM 9 1,gH 10 true 9,⟨gO,.sub 11 true 0 (.s 8) (some (.s 10)) none⟩,gM 4 11]) .ret) .skip)) (.seq (gQ [gM 12 0,gM 4 12]) .ret))
def iH:AFn:=⟨2,13,iG,[.tmp 4]⟩
theorem fH:ax Tryz.prog [] Tryz.f102=some iH:=kk
theorem fI:aa Tryz.prog 102=true:=kk
def se:ACode:=
 .seq (gQ [⟨gO,.mov 4 (.k (.lst .nil 1 []))⟩]) (.seq (gQ [gM 5 0,gM 6 1,gC 7 98 [.s 5,.s 6,gI 0,.k (.int .i64 (-1))],gM 4 7]) .ret)
def sf:AFn:=⟨2,8,se,[.tmp 4]⟩
theorem gp:ax Tryz.prog [] Tryz.f52=some sf:=kk
theorem gq:aa Tryz.prog 52=true:=kk
def mz:ACode:=
 .seq (gQ [⟨gO,.mov 4 (.k (.bool false))⟩]) (.seq (gQ [gM 5 0,gM 6 1,gC 7 86 [.s 5,.s 6],gM 4 7]) .ret)
def mA:AFn:=⟨2,8,mz,[.tmp 4]⟩
theorem jI:ax Tryz.prog [] Tryz.f42=some mA:=kk
theorem jJ:aa Tryz.prog 42=true:=kk
def jb:ACode:=
 .seq (gQ [⟨gO,.mov 4 (.k (.bool false))⟩]) (.seq (gQ [gM 5 0,gH 6 true 5,gM 7 1,gH 8 true 7,gV 9 .geq 6 8,gM 10 9,gN 10 true 11 0,gN 10 true 12 1,⟨some (10,true),.len 13 true (.s 12)⟩,⟨some (10,true),.sub 14 true 0 (.s 11) none (some (.s 13))⟩,gN 10 true 15 1,⟨some (10,true),.bin 16 .eql false (.s 14) (.s 15)⟩,⟨gO,.pick 17 (.s 10) (.s 16) (.k (.bool false))⟩,gM 4 17]) .ret)
def jc:AFn:=⟨2,18,jb,[.tmp 4]⟩
theorem gu:ax Tryz.prog [] Tryz.f86=some jc:=kk
theorem gv:aa Tryz.prog 86=true:=kk
def mB:ACode:=
 .seq (gQ [⟨gO,.mov 4 (gS ⟨#[]⟩)⟩,⟨gO,.mov 5 (.k (.bool false))⟩]) (.seq (gQ [gM 6 0,gM 7 1,gC 8 214 [.s 6,.s 7],gX 9 0 8,gX 10 1 8,gM 4 9,gM 5 10]) .ret)
def mC:AFn:=⟨2,11,mB,[.tmp 4,.tmp 5]⟩
theorem jK:ax Tryz.prog [] Tryz.f161=some mC:=kk
theorem jL:aa Tryz.prog 161=true:=kk
def jd:ACode:=
 .seq (gQ [⟨gO,.mov 4 (gS ⟨#[]⟩)⟩,⟨gO,.mov 5 (.k (.bool false))⟩]) (.seq (.seq (gQ [gM 6 0,gM 7 1,gC 8 86 [.s 6,.s 7],⟨gO,.un 9 .not (.s 8)⟩]) (.cond (.s 9) (.seq (gQ [gM 10 0,gM 4 10,⟨gO,.mov 5 (.k (.bool false))⟩]) .ret) .skip)) (.seq (gQ [gM 11 0,gM 12 1,gH 13 true 12,⟨gO,.sub 14 true 0 (.s 11) (some (.s 13)) none⟩,gM 4 14,⟨gO,.mov 5 (.k (.bool true))⟩]) .ret))
def je:AFn:=⟨2,15,jd,[.tmp 4,.tmp 5]⟩
theorem gy:ax Tryz.prog [] Tryz.f214=some je:=kk
theorem gz:aa Tryz.prog 214=true:=kk
def wm:ACode:=
 .seq (gQ [⟨gO,.mov 4 (gS ⟨#[]⟩)⟩,⟨gO,.mov 5 (gS ⟨#[]⟩)⟩,⟨gO,.mov 6 (.k (.bool false))⟩]) (.seq (gQ [gM 7 0,gM 8 1,gC 9 120 [.s 7,.s 8],gX 10 0 9,gX 11 1 9,gX 12 2 9,gM 4 10,gM 5 11,gM 6 12]) .ret)
def wn:AFn:=⟨2,13,wm,[.tmp 4,.tmp 5,.tmp 6]⟩
theorem p7:ax Tryz.prog [] Tryz.f71=some wn:=kk
theorem p8:aa Tryz.prog 71=true:=kk
def oP:ACode:=
 .seq (gQ [⟨gO,.mov 4 (gS ⟨#[]⟩)⟩,⟨gO,.mov 5 (gS ⟨#[]⟩)⟩,⟨gO,.mov 6 (.k (.bool false))⟩]) (.seq (.seq (gQ [gM 8 0,gM 9 1,gC 10 156 [.s 8,.s 9],gM 7 10]) (.seq (gQ [gM 11 7,gU 12 .geq 11 0]) (.cond (.s 12) (.seq (gQ [gM 13 0,gM 14 7,⟨gO,.sub 15 true 0 (.s 13) none (some (.s 14))⟩,gM 16 0,gM 17 7,gM 18 1,gH 19 true 18,gV 20 .add 17 19,⟨gO,.sub 21 true 0 (.s 16) (some (.s 20)) none⟩,gM 4 15,gM 5 21,⟨gO,.mov 6 (.k (.bool true))⟩]) .ret) .skip))) (.seq (gQ [gM 22 0,gM 4 22,⟨gO,.mov 5 (gS ⟨#[]⟩)⟩,⟨gO,.mov 6 (.k (.bool false))⟩]) .ret))
def oQ:AFn:=⟨2,23,oP,[.tmp 4,.tmp 5,.tmp 6]⟩
theorem fa:ax Tryz.prog [] Tryz.f120=some oQ:=kk
theorem fb:aa Tryz.prog 120=true:=kk
end
section
set_option maxRecDepth 100000
def yR:ACode:=
 .seq (gQ [gP 1 0,gJ 2 0]) (.seq (.block 0 (.seq (gQ [gA 4 6 1,gC 5 95 [.s 4],gU 6 .gtr 5 16,gM 3 6]) (.cond (.s 3) (.seq (gQ [gJ 2 5]) .ret) (.seq (gQ [gA 8 6 1,gC 9 96 [.s 8],gU 10 .gtr 9 4096,gM 7 10]) (.cond (.s 7) (.seq (gQ [gJ 2 6]) .ret) .skip))))) (.seq (gQ [gA 11 6 1,gC 12 97 [.s 11],gM 2 12]) .ret))
def yS:AFn:=⟨1,13,yR,[.tmp 2]⟩
theorem sg:ax Tryz.prog [] Tryz.f49=some yS:=kk
theorem sh:aa Tryz.prog 49=true:=kk
def AM:ACode:=
 .seq (gQ [gP 1 0,gJ 2 0]) (.seq (gQ [gJ 3 1]) (.seq (.seq (gQ [gF 8 4 1,gL 9 8,gH 10 false 9,gJ 11 0]) (.block 0 (.loop (.seq (gQ [gV 12 .lss 11 10]) (.seq (.cond (.s 12) .skip (.exit 0)) (.seq (.block 1 (.seq (gQ [gE 13 6 9 11,gA 14 6 13,⟨gO,.alloc 5 gZ⟩,gT 6 5 14]) (.reg [gM 15 3,gA 16 6 5,gC 17 96 [.s 16],gV 18 .add 15 17,gM 3 18]))) (.reg [gU 19 .add 11 1,gM 11 19]))))))) (.seq (.seq (gQ [gF 20 5 1,gL 21 20,gH 22 false 21,gJ 23 0]) (.block 2 (.loop (.seq (gQ [gV 24 .lss 23 22]) (.seq (.cond (.s 24) .skip (.exit 2)) (.seq (.block 3 (.seq (gQ [gE 25 7 21 23,gA 26 7 25,⟨gO,.alloc 7 [.str ⟨#[]⟩,.int .i64 0,.bool false,.int .i64 0,.str ⟨#[]⟩,.lst .nil 6 [],.lst .nil 7 []]⟩,gT 7 7 26]) (.reg [gM 27 3,gF 28 1 7,gA 29 6 28,gC 30 96 [.s 29],gV 31 .add 27 30,gM 3 31]))) (.reg [gU 32 .add 23 1,gM 23 32]))))))) (.seq (gQ [gM 33 3,gM 2 33]) .ret))))
def AN:AFn:=⟨1,34,AM,[.tmp 2]⟩
theorem uC:ax Tryz.prog [] Tryz.f96=some AN:=kk
theorem uD:aa Tryz.prog 96=true:=kk
def yT:ACode:=
 .seq (gQ [gP 1 0,gJ 2 0]) (.seq (gQ [gJ 3 0]) (.seq (.seq (gQ [gF 8 4 1,gL 9 8,gH 10 false 9,gJ 11 0]) (.block 0 (.loop (.seq (gQ [gV 12 .lss 11 10]) (.seq (.cond (.s 12) .skip (.exit 0)) (.seq (.block 1 (.seq (gQ [gE 13 6 9 11,gA 14 6 13,⟨gO,.alloc 5 gZ⟩,gT 6 5 14]) (.reg [gM 15 3,gA 16 6 5,gC 17 95 [.s 16],⟨gO,.mx 18 (.s 15) (.s 17)⟩,gM 3 18]))) (.reg [gU 19 .add 11 1,gM 11 19]))))))) (.seq (.seq (gQ [gF 20 5 1,gL 21 20,gH 22 false 21,gJ 23 0]) (.block 2 (.loop (.seq (gQ [gV 24 .lss 23 22]) (.seq (.cond (.s 24) .skip (.exit 2)) (.seq (.block 3 (.seq (gQ [gE 25 7 21 23,gA 26 7 25,⟨gO,.alloc 7 [.str ⟨#[]⟩,.int .i64 0,.bool false,.int .i64 0,.str ⟨#[]⟩,.lst .nil 6 [],.lst .nil 7 []]⟩,gT 7 7 26]) (.reg [gM 27 3,gF 28 1 7,gA 29 6 28,gC 30 95 [.s 29],⟨gO,.mx 31 (.s 27) (.s 30)⟩,gM 3 31]))) (.reg [gU 32 .add 23 1,gM 23 32]))))))) (.seq (gQ [gM 33 3,gU 34 .add 33 1,gM 2 34]) .ret))))
def yU:AFn:=⟨1,35,yT,[.tmp 2]⟩
theorem si:ax Tryz.prog [] Tryz.f95=some yU:=kk
theorem sj:aa Tryz.prog 95=true:=kk
def yV:ACode:=
 .seq (gQ [gP 1 0,gJ 2 0]) (.seq (.block 0 (.seq (gQ [gA 10 6 1,gC 11 150 [.s 10],⟨gO,.un 12 .not (.s 11)⟩,gM 9 12]) (.cond (.s 9) (.seq (gQ [gJ 2 8]) .ret) (.seq (gQ [gF 14 3 1,gL 15 14,gC 16 151 [.s 15],⟨gO,.un 17 .not (.s 16)⟩,gM 13 17]) (.cond (.s 13) (.seq (gQ [gJ 2 10]) .ret) .skip))))) (.seq (.seq (gQ [gF 18 4 1,gL 19 18,gH 20 false 19,gJ 21 0]) (.block 1 (.loop (.seq (gQ [gV 22 .lss 21 20]) (.seq (.cond (.s 22) .skip (.exit 1)) (.seq (.block 2 (.seq (gQ [gE 23 6 19 21,gA 24 6 23,⟨gO,.alloc 4 gZ⟩,gT 6 4 24]) (.seq (gQ [gA 25 6 4,gC 26 97 [.s 25],gM 5 26]) (.seq (gQ [gM 27 5,gU 28 .neq 27 0]) (.cond (.s 28) (.seq (gQ [gM 29 5,gM 2 29]) .ret) .skip))))) (.reg [gU 30 .add 21 1,gM 21 30]))))))) (.seq (.seq (gQ [gF 31 5 1,gL 32 31,gH 33 false 32,gJ 34 0]) (.block 3 (.loop (.seq (gQ [gV 35 .lss 34 33]) (.seq (.cond (.s 35) .skip (.exit 3)) (.seq (.block 4 (.seq (gQ [gM 36 34,gE 37 7 32 34,gA 38 7 37,⟨gO,.alloc 7 [.str ⟨#[]⟩,.int .i64 0,.bool false,.int .i64 0,.str ⟨#[]⟩,.lst .nil 6 [],.lst .nil 7 []]⟩,gM 6 36,gT 7 7 38]) (.seq (.block 5 (.seq (gQ [gF 40 0 7,gL 41 40,gC 42 152 [.s 41],⟨gO,.un 43 .not (.s 42)⟩,gM 39 43]) (.cond (.s 39) (.seq (gQ [gJ 2 7]) .ret) (.seq (gQ [gM 45 6,gU 46 .gtr 45 0,gM 47 46,⟨some (47,true),.off 48 5 (.s 1)⟩,⟨some (47,true),.ld 49 1 false (.s 48)⟩,gN 47 true 50 6,⟨some (47,true),.bin 51 .sub false (.s 50) (gI 1)⟩,⟨some (47,true),.idx 52 7 (.s 49) (.s 51)⟩,⟨some (47,true),.off 53 0 (.s 52)⟩,⟨some (47,true),.ld 54 1 false (.s 53)⟩,⟨some (47,true),.off 55 0 (.s 7)⟩,⟨some (47,true),.ld 56 1 false (.s 55)⟩,⟨some (47,true),.bin 57 .geq false (.s 54) (.s 56)⟩,⟨gO,.pick 58 (.s 47) (.s 57) (.k (.bool false))⟩,gM 44 58]) (.cond (.s 44) (.seq (gQ [gJ 2 13]) .ret) .skip))))) (.seq (gQ [gF 59 1 7,gA 60 6 59,gC 61 97 [.s 60],gM 8 61]) (.seq (gQ [gM 62 8,gU 63 .neq 62 0]) (.cond (.s 63) (.seq (gQ [gM 64 8,gM 2 64]) .ret) .skip)))))) (.reg [gU 65 .add 34 1,gM 34 65]))))))) (.seq (gQ [gJ 2 0]) .ret))))
def yW:AFn:=⟨1,66,yV,[.tmp 2]⟩
theorem sk:ax Tryz.prog [] Tryz.f97=some yW:=kk
theorem sl:aa Tryz.prog 97=true:=kk
def CW:ACode:=
 .seq (gQ [⟨gO,.mov 2 (.k (.bool false))⟩]) (.seq (gQ [gM 3 0,⟨gO,gB 4 .neq (.s 3) (gS ⟨#[]⟩)⟩,gM 5 4,gN 5 true 6 0,⟨some (5,true),.len 7 true (.s 6)⟩,⟨some (5,true),.bin 8 .leq false (.s 7) (gI 256)⟩,⟨gO,.pick 9 (.s 5) (.s 8) (.k (.bool false))⟩,gM 10 9,gN 10 true 11 0,⟨some (10,true),.call (some 12) (.k (.fn 151 [])) [.s 11]⟩,⟨gO,.pick 13 (.s 10) (.s 12) (.k (.bool false))⟩,gM 14 13,gN 14 true 15 0,⟨some (14,true),.call (some 16) (.k (.fn 175 [])) [.s 15,gS ⟨#[10]⟩]⟩,⟨some (14,true),.un 17 .not (.s 16)⟩,⟨gO,.pick 18 (.s 14) (.s 17) (.k (.bool false))⟩,gM 19 18,gN 19 true 20 0,⟨some (19,true),.call (some 21) (.k (.fn 175 [])) [.s 20,gS ⟨#[9]⟩]⟩,⟨some (19,true),.un 22 .not (.s 21)⟩,⟨gO,.pick 23 (.s 19) (.s 22) (.k (.bool false))⟩,gM 2 23]) .ret)
def CX:AFn:=⟨1,24,CW,[.tmp 2]⟩
theorem wo:ax Tryz.prog [] Tryz.f152=some CX:=kk
theorem wq:aa Tryz.prog 152=true:=kk
def p9:ACode:=
 .seq (gQ [⟨gO,.mov 2 (gS ⟨#[]⟩)⟩,⟨gO,.mov 3 (gS ⟨#[]⟩)⟩,gJ 4 0]) (.seq (.seq (gQ [gM 5 0,⟨gO,gB 6 .eql (.s 5) (gS ⟨#[]⟩)⟩]) (.cond (.s 6) (.seq (gQ [⟨gO,.mov 2 (gS ⟨#[]⟩)⟩,⟨gO,.mov 3 (gS ⟨#[]⟩)⟩,gJ 4 11]) .ret) .skip)) (.seq (.seq (gQ [gM 7 0,⟨gO,.bidx 8 (.s 7) (gI 0)⟩]) (.block 0 (.seq (gQ [⟨gO,gB 10 .eql (.s 8) (.k (.int .u8 34))⟩,gM 9 10]) (.cond (.s 9) (.seq (gQ [gM 11 0,gC 12 178 [.s 11],gX 13 0 12,gX 14 1 12,gX 15 2 12,gM 2 13,gM 3 14,gM 4 15]) .ret) (.seq (gQ [⟨gO,gB 17 .eql (.s 8) (.k (.int .u8 39))⟩,gM 16 17]) (.cond (.s 16) (.seq (gQ [gM 18 0,gC 19 179 [.s 18],gX 20 0 19,gX 21 1 19,gX 22 2 19,gM 2 20,gM 3 21,gM 4 22]) .ret) .skip)))))) (.seq (gQ [⟨gO,.mov 2 (gS ⟨#[]⟩)⟩,⟨gO,.mov 3 (gS ⟨#[]⟩)⟩,gJ 4 11]) .ret)))
def qa:AFn:=⟨1,23,p9,[.tmp 2,.tmp 3,.tmp 4]⟩
theorem mD:ax Tryz.prog [] Tryz.f124=some qa:=kk
theorem mE:aa Tryz.prog 124=true:=kk
theorem nI:aa Tryz.prog 178=true:=kk
theorem nL:aa Tryz.prog 179=true:=kk
def uE:ACode:=
 .seq (gQ [⟨gO,.alloc 2 gZ⟩,gJ 3 0]) (.seq (.seq (gQ [gM 6 0]) (.block 0 (.seq (.seq (gQ [⟨gO,gB 8 .eql (.s 6) (gS ⟨#[]⟩)⟩,gM 7 8]) (.cond (.s 7) .skip (.seq (gQ [⟨gO,gB 9 .eql (.s 6) (gS ⟨#[126]⟩)⟩,gM 7 9]) (.cond (.s 7) .skip (.reg [⟨gO,gB 10 .eql (.s 6) (gS ⟨#[110,117,108,108]⟩)⟩,gM 7 10]))))) (.cond (.s 7) (.seq (gQ [gC 11 44 [],gT 6 2 11,gJ 3 0]) .ret) (.seq (.seq (gQ [⟨gO,gB 13 .eql (.s 6) (gS ⟨#[116,114,117,101]⟩)⟩,gM 12 13]) (.cond (.s 12) .skip (.reg [⟨gO,gB 14 .eql (.s 6) (gS ⟨#[102,97,108,115,101]⟩)⟩,gM 12 14]))) (.cond (.s 12) (.seq (gQ [gM 15 0,⟨gO,gB 16 .eql (.s 15) (gS ⟨#[116,114,117,101]⟩)⟩,gC 17 180 [.s 16],gT 6 2 17,gJ 3 0]) .ret) .skip)))))) (.seq (.seq (gQ [gM 18 0,gC 19 181 [.s 18],⟨gO,.un 20 .not (.s 19)⟩]) (.cond (.s 20) (.seq (gQ [gM 21 0,gC 22 45 [.s 21],gT 6 2 22,gJ 3 0]) .ret) .skip)) (.seq (gQ [gM 24 0,gC 25 182 [.s 24,gI 10,gI 64],gM 23 25,gX 26 0 23,gX 27 1 23,gM 4 26,gM 5 27]) (.seq (.seq (gQ [gM 28 5,⟨gO,.eqs 29 true 216 (.s 28) (.k (.raw Value.nilIface))⟩]) (.cond (.s 29) (.seq (gQ [⟨gO,.build 30 gZ []⟩,gT 6 2 30,gJ 3 9]) .ret) .skip)) (.seq (gQ [gM 31 4,gC 32 37 [.s 31],gT 6 2 32,gJ 3 0]) .ret)))))
def uF:AFn:=⟨1,33,uE,[.cell 2 6 true,.tmp 3]⟩
theorem oR:ax Tryz.prog [] Tryz.f125=some uF:=kk
theorem oS:aa Tryz.prog 125=true:=kk
def sm:ACode:=
 .seq (gQ [⟨gO,.mov 2 (.k (.bool false))⟩]) (.seq (gQ [gM 4 0,⟨gO,.call (some 5) (.k (.fn 54 [])) [.s 4,gS ⟨#[45]⟩]⟩,gM 0 5]) (.seq (.seq (gQ [gM 6 0,gH 7 true 6,gJ 8 0]) (.block 0 (.loop (.seq (gQ [gV 9 .lss 8 7]) (.seq (.cond (.s 9) .skip (.exit 0)) (.seq (.block 1 (.seq (gQ [gM 10 8,gM 3 10]) (.seq (gQ [gM 11 0,gM 12 3,⟨gO,.bidx 13 (.s 11) (.s 12)⟩,gC 14 100 [.s 13],⟨gO,.un 15 .not (.s 14)⟩]) (.cond (.s 15) (.seq (gQ [⟨gO,.mov 2 (.k (.bool false))⟩]) .ret) .skip)))) (.reg [gU 16 .add 8 1,gM 8 16]))))))) (.seq (gQ [gM 17 0,⟨gO,gB 18 .neq (.s 17) (gS ⟨#[]⟩)⟩,gM 2 18]) .ret)))
def so:AFn:=⟨1,19,sm,[.tmp 2]⟩
theorem nM:ax Tryz.prog [] Tryz.f181=some so:=kk
theorem nN:aa Tryz.prog 181=true:=kk
def yX:ACode:=
 .seq (gQ [gP 2 0,⟨gO,.alloc 4 gZ⟩,gJ 5 0]) (.seq (gQ [gM 15 1,⟨gO,.call (some 16) (.k (.fn 71 [])) [.s 15,gS ⟨#[61]⟩]⟩,gM 14 16,gX 17 0 14,gX 18 1 14,gX 19 2 14,gM 6 17,gM 7 18,gM 8 19]) (.seq (.seq (gQ [gM 20 8,⟨gO,.un 21 .not (.s 20)⟩]) (.cond (.s 21) (.seq (gQ [⟨gO,.build 22 gZ []⟩,gT 6 4 22,gJ 5 10]) .ret) .skip)) (.seq (gQ [gM 24 6,gC 25 72 [.s 24],gM 23 25,gX 26 0 23,gX 27 1 23,gM 9 26,gM 10 27]) (.seq (.seq (gQ [gM 28 10,gU 29 .neq 28 0]) (.cond (.s 29) (.seq (gQ [⟨gO,.build 30 gZ []⟩,gM 31 10,gT 6 4 30,gM 5 31]) .ret) .skip)) (.seq (gQ [gM 33 7,gC 34 73 [.s 33],gM 32 34,gX 35 0 32,gX 36 1 32,⟨gO,.alloc 11 gZ⟩,gT 6 11 35,gM 10 36]) (.seq (.seq (gQ [gM 37 10,gU 38 .neq 37 0]) (.cond (.s 38) (.seq (gQ [⟨gO,.build 39 gZ []⟩,gM 40 10,gT 6 4 39,gM 5 40]) .ret) .skip)) (.seq (gQ [gA 41 6 2,⟨gO,.call (some 42) (.k (.fn 36 [])) [.k (.lst .nil 7 [])]⟩,gA 43 6 11,gM 44 9,gC 45 75 [.s 42,.s 43,.s 44],gC 46 74 [.s 41,.s 45],⟨gO,.alloc 12 gZ⟩,gT 6 12 46]) (.seq (.seq (gQ [gA 47 6 12,gC 48 49 [.s 47],gM 13 48]) (.seq (gQ [gM 49 13,gU 50 .neq 49 0]) (.cond (.s 50) (.seq (gQ [⟨gO,.build 51 gZ []⟩,gM 52 13,gT 6 4 51,gM 5 52]) .ret) .skip))) (.seq (gQ [gA 53 6 12,gT 6 4 53,gJ 5 0]) .ret)))))))))
def yY:AFn:=⟨2,54,yX,[.cell 4 6 true,.tmp 5]⟩
theorem sq:ax Tryz.prog [] Tryz.f35=some yY:=kk
theorem sr:aa Tryz.prog 35=true:=kk
def ws:ACode:=
 .seq (gQ [⟨gO,.alloc 2 gZ⟩,gJ 3 0]) (.seq (.seq (gQ [gM 7 0,⟨gO,.call (some 8) (.k (.fn 42 [])) [.s 7,gS ⟨#[34]⟩]⟩,gM 9 8,gN 9 false 10 0,⟨some (9,false),.call (some 11) (.k (.fn 42 [])) [.s 10,gS ⟨#[39]⟩]⟩,⟨gO,.pick 12 (.s 9) (.k (.bool true)) (.s 11)⟩]) (.cond (.s 12) (.seq (gQ [gM 14 0,gC 15 124 [.s 14],gM 13 15,gX 16 0 13,gX 17 1 13,gX 18 2 13,gM 4 16,gM 5 17,gM 6 18]) (.seq (.seq (gQ [gM 19 6,gU 20 .eql 19 0,gM 21 20,gN 21 true 22 5,⟨some (21,true),.bin 23 .neq false (.s 22) (gS ⟨#[]⟩)⟩,⟨gO,.pick 24 (.s 21) (.s 23) (.k (.bool false))⟩]) (.cond (.s 24) (.reg [gJ 6 10]) .skip)) (.seq (.seq (gQ [gM 25 6,gU 26 .neq 25 0]) (.cond (.s 26) (.seq (gQ [⟨gO,.build 27 gZ []⟩,gM 28 6,gT 6 2 27,gM 3 28]) .ret) .skip)) (.seq (gQ [gM 29 4,gC 30 45 [.s 29],gT 6 2 30,gJ 3 0]) .ret)))) .skip)) (.seq (gQ [gM 31 0,gC 32 125 [.s 31],gX 33 0 32,gX 34 1 32,gT 6 2 33,gM 3 34]) .ret))
def wu:AFn:=⟨1,35,ws,[.cell 2 6 true,.tmp 3]⟩
theorem qb:ax Tryz.prog [] Tryz.f73=some wu:=kk
theorem qc:aa Tryz.prog 73=true:=kk
def yZ:ACode:=
 .seq (gQ [⟨gO,.mov 2 (.k (.lst .nil 1 []))⟩,gJ 3 0]) (.seq (gQ [gM 5 0,⟨gO,.call (some 6) (.k (.fn 52 [])) [.s 5,gS ⟨#[46]⟩]⟩,gM 4 6]) (.seq (.seq (gQ [gM 7 4,gH 8 false 7,gU 9 .geq 8 16]) (.cond (.s 9) (.seq (gQ [⟨gO,.mov 2 (.k (.lst .nil 1 []))⟩,gJ 3 5]) .ret) .skip)) (.seq (.seq (gQ [gM 10 4,⟨gO,.call (some 11) (.k (.fn 121 [])) [.s 10,.k (.fn 122 [])]⟩]) (.cond (.s 11) (.seq (gQ [⟨gO,.mov 2 (.k (.lst .nil 1 []))⟩,gJ 3 10]) .ret) .skip)) (.seq (gQ [gM 12 4,gM 2 12,gJ 3 0]) .ret))))
def y0:AFn:=⟨1,13,yZ,[.tmp 2,.tmp 3]⟩
theorem su:ax Tryz.prog [] Tryz.f72=some y0:=kk
theorem sv:aa Tryz.prog 72=true:=kk
def uG:ACode:=
 .seq (gQ [⟨gO,.mov 2 (.k (.bool false))⟩]) (.seq (gQ [gM 3 0,gC 4 123 [.s 3],⟨gO,.un 5 .not (.s 4)⟩,gM 2 5]) .ret)
def uH:AFn:=⟨1,6,uG,[.tmp 2]⟩
theorem oT:ax Tryz.prog [] Tryz.f122=some uH:=kk
theorem oU:aa Tryz.prog 122=true:=kk
def AO:ACode:=
 .seq (gQ [⟨gO,.mov 2 (.k (.bool false))⟩]) (.seq (.seq (gQ [gM 5 0,gH 6 true 5,gJ 7 0]) (.block 0 (.loop (.seq (gQ [gV 8 .lss 7 6]) (.seq (.cond (.s 8) .skip (.exit 0)) (.seq (.block 1 (.seq (gQ [gM 9 7,gM 3 9]) (.seq (gQ [gM 10 0,gM 11 3,⟨gO,.bidx 12 (.s 10) (.s 11)⟩,gM 4 12]) (.seq (gQ [gM 13 4,⟨gO,gB 14 .geq (.s 13) (.k (.int .u8 97))⟩,gM 15 14,gN 15 true 16 4,⟨some (15,true),.bin 17 .leq false (.s 16) (.k (.int .u8 122))⟩,⟨gO,.pick 18 (.s 15) (.s 17) (.k (.bool false))⟩,gM 19 18,gN 19 false 20 4,⟨some (19,false),.bin 21 .geq false (.s 20) (.k (.int .u8 65))⟩,gN 19 false 22 21,gN 22 true 23 4,⟨some (22,true),.bin 24 .leq false (.s 23) (.k (.int .u8 90))⟩,⟨some (19,false),.pick 25 (.s 22) (.s 24) (.k (.bool false))⟩,⟨gO,.pick 26 (.s 19) (.k (.bool true)) (.s 25)⟩,gM 27 26,gN 27 false 28 4,⟨some (27,false),.bin 29 .geq false (.s 28) (.k (.int .u8 48))⟩,gN 27 false 30 29,gN 30 true 31 4,⟨some (30,true),.bin 32 .leq false (.s 31) (.k (.int .u8 57))⟩,⟨some (27,false),.pick 33 (.s 30) (.s 32) (.k (.bool false))⟩,⟨gO,.pick 34 (.s 27) (.k (.bool true)) (.s 33)⟩,gM 35 34,gN 35 false 36 4,⟨some (35,false),.bin 37 .eql false (.s 36) (.k (.int .u8 95))⟩,⟨gO,.pick 38 (.s 35) (.k (.bool true)) (.s 37)⟩,gM 39 38,gN 39 false 40 4,⟨some (39,false),.bin 41 .eql false (.s 40) (.k (.int .u8 45))⟩,⟨gO,.pick 42 (.s 39) (.k (.bool true)) (.s 41)⟩,⟨gO,.un 43 .not (.s 42)⟩]) (.cond (.s 43) (.seq (gQ [⟨gO,.mov 2 (.k (.bool false))⟩]) .ret) .skip))))) (.reg [gU 44 .add 7 1,gM 7 44]))))))) (.seq (gQ [gM 45 0,⟨gO,gB 46 .neq (.s 45) (gS ⟨#[]⟩)⟩,gM 47 46,gN 47 true 48 0,⟨some (47,true),.len 49 true (.s 48)⟩,⟨some (47,true),.bin 50 .leq false (.s 49) (gI 256)⟩,⟨gO,.pick 51 (.s 47) (.s 50) (.k (.bool false))⟩,gM 2 51]) .ret))
def AP:AFn:=⟨1,52,AO,[.tmp 2]⟩
theorem uI:ax Tryz.prog [] Tryz.f123=some AP:=kk
theorem uJ:aa Tryz.prog 123=true:=kk
def CY:ACode:=
 .seq (gQ [gP 3 0,gP 4 1,⟨gO,.alloc 6 gZ⟩]) (.seq (.seq (gQ [gM 9 2,gH 10 false 9,gU 11 .eql 10 0]) (.cond (.s 11) (.seq (gQ [gA 12 6 4,gC 13 78 [.s 12],gT 6 6 13]) .ret) .skip)) (.seq (gQ [gA 15 6 3,gM 16 2,⟨gO,.idx 17 1 (.s 16) (gI 0)⟩,gL 18 17,gC 19 38 [.s 15,.s 18],gM 14 19,gX 20 0 14,gX 21 1 14,⟨gO,.alloc 7 gZ⟩,gT 6 7 20,gM 8 21]) (.seq (gQ [gA 22 6 3,gM 23 2,⟨gO,.idx 24 1 (.s 23) (gI 0)⟩,gL 25 24,gA 26 6 7,gA 27 6 4,gM 28 2,⟨gO,.sub 29 false 1 (.s 28) (some (gI 1)) none⟩,gC 30 75 [.s 26,.s 27,.s 29],gC 31 128 [.s 22,.s 25,.s 30],gT 6 6 31]) .ret)))
def CZ:AFn:=⟨3,32,CY,[.cell 6 6 true]⟩
theorem mZ:ax Tryz.prog [] Tryz.f75=some CZ:=kk
theorem m5:aa Tryz.prog 75=true:=kk
def y1:ACode:=
 .seq (gQ [gP 2 0,gP 3 1,⟨gO,.alloc 4 gZ⟩]) (.seq (.seq (gQ [gF 10 0 2,gL 11 10,gU 12 .neq 11 5,gM 13 12,⟨some (13,false),.off 14 0 (.s 3)⟩,⟨some (13,false),.ld 15 1 false (.s 14)⟩,⟨some (13,false),.bin 16 .neq false (.s 15) (gI 5)⟩,⟨gO,.pick 17 (.s 13) (.k (.bool true)) (.s 16)⟩]) (.cond (.s 17) (.seq (gQ [gA 18 6 3,gC 19 126 [.s 18],gT 6 4 19]) .ret) .skip)) (.seq (gQ [gA 20 6 2,gC 21 78 [.s 20],⟨gO,.alloc 5 gZ⟩,gT 6 5 21]) (.seq (.seq (gQ [gF 22 5 3,gL 23 22,gH 24 false 23,gJ 25 0]) (.block 0 (.loop (.seq (gQ [gV 26 .lss 25 24]) (.seq (.cond (.s 26) .skip (.exit 0)) (.seq (.block 1 (.seq (gQ [gE 27 7 23 25,gA 28 7 27,⟨gO,.alloc 7 [.str ⟨#[]⟩,.int .i64 0,.bool false,.int .i64 0,.str ⟨#[]⟩,.lst .nil 6 [],.lst .nil 7 []]⟩,gT 7 7 28]) (.seq (.seq (gQ [gF 29 1 7,gF 30 0 29,gL 31 30,gU 32 .eql 31 0]) (.cond (.s 32) (.seq (gQ [gA 33 6 5,gF 34 0 7,gL 35 34,gC 36 127 [.s 33,.s 35],gT 6 5 36]) (.exit 1)) .skip)) (.seq (gQ [gA 38 6 5,gF 39 0 7,gL 40 39,gC 41 38 [.s 38,.s 40],gM 37 41,gX 42 0 37,gX 43 1 37,⟨gO,.alloc 8 gZ⟩,gT 6 8 42,gM 9 43]) (.reg [gA 44 6 5,gF 45 0 7,gL 46 45,gA 47 6 8,gF 48 1 7,gA 49 6 48,gC 50 74 [.s 47,.s 49],gC 51 128 [.s 44,.s 46,.s 50],gT 6 5 51]))))) (.reg [gU 52 .add 25 1,gM 25 52]))))))) (.seq (gQ [gA 53 6 5,gT 6 4 53]) .ret))))
def y4:AFn:=⟨2,54,y1,[.cell 4 6 true]⟩
theorem kx:ax Tryz.prog [] Tryz.f74=some y4:=kk
theorem ky:aa Tryz.prog 74=true:=kk
def wv:ACode:=
 .seq (gQ [gP 1 0,⟨gO,.alloc 2 gZ⟩]) (.seq (.seq (gQ [gF 6 0 1,gL 7 6,gU 8 .neq 7 5]) (.cond (.s 8) (.seq (gQ [gA 9 6 1,gC 10 78 [.s 9],gT 6 2 10]) .ret) .skip)) (.seq (gQ [⟨gO,.call (some 11) (.k (.fn 36 [])) [.k (.lst .nil 7 [])]⟩,⟨gO,.alloc 3 gZ⟩,gT 6 3 11]) (.seq (.seq (gQ [gF 12 5 1,gL 13 12,gH 14 false 13,gJ 15 0]) (.block 0 (.loop (.seq (gQ [gV 16 .lss 15 14]) (.seq (.cond (.s 16) .skip (.exit 0)) (.seq (.block 1 (.seq (gQ [gE 17 7 13 15,gA 18 7 17,⟨gO,.alloc 5 [.str ⟨#[]⟩,.int .i64 0,.bool false,.int .i64 0,.str ⟨#[]⟩,.lst .nil 6 [],.lst .nil 7 []]⟩,gT 7 5 18]) (.seq (gQ [gF 19 1 5,gF 20 0 19,gL 21 20,gU 22 .neq 21 0]) (.cond (.s 22) (.reg [gA 23 6 3,gF 24 0 5,gL 25 24,gF 26 1 5,gA 27 6 26,gC 28 126 [.s 27],gC 29 128 [.s 23,.s 25,.s 28],gT 6 3 29]) .skip)))) (.reg [gU 30 .add 15 1,gM 15 30]))))))) (.seq (gQ [gA 31 6 3,gT 6 2 31]) .ret))))
def ww:AFn:=⟨1,32,wv,[.cell 2 6 true]⟩
theorem qd:ax Tryz.prog [] Tryz.f126=some ww:=kk
theorem qe:aa Tryz.prog 126=true:=kk
def fq:ACode:=
 .seq (gQ [⟨gO,.mov 4 (.k (.bool false))⟩]) (.seq (gQ [gM 5 0,gM 6 1,gC 7 177 [.s 5,.s 6],gU 8 .geq 7 0,gM 4 8]) .ret)
def ft:AFn:=⟨2,9,fq,[.tmp 4]⟩
theorem eE:ax Tryz.prog [] Tryz.f121=some ft:=kk
theorem eF:aa Tryz.prog 121=true:=kk
def ii:ACode:=
 .seq (gQ [gJ 4 0]) (.seq (.seq (gQ [gM 6 0,gH 7 false 6,gJ 8 0]) (.block 0 (.loop (.seq (gQ [gV 9 .lss 8 7]) (.seq (.cond (.s 9) .skip (.exit 0)) (.seq (.block 1 (.seq (gQ [gM 10 8,gM 5 10]) (.seq (gQ [gM 11 1,gM 12 0,gM 13 5,gE 14 1 12 13,gL 15 14,⟨gO,.call (some 16) (.s 11) [.s 15]⟩]) (.cond (.s 16) (.seq (gQ [gM 17 5,gM 4 17]) .ret) .skip)))) (.reg [gU 18 .add 8 1,gM 8 18]))))))) (.seq (gQ [⟨gO,.mov 4 (.k (.int .i64 (-1)))⟩]) .ret))
def ij:AFn:=⟨2,19,ii,[.tmp 4]⟩
theorem fu:ax Tryz.prog [] Tryz.f177=some ij:=kk
theorem fw:aa Tryz.prog 177=true:=kk
end
end Go.Proofs.YtbgflifmanjpjaaGreatDoor
