/- Part 45. -/
import Derived.Test.YtbgflifmanjpjaaGreatDoorS44
set_option linter.unusedSimpArgs false
set_option linter.unusedVariables false
namespace Go.Proofs.YtbgflifmanjpjaaGreatDoor
section
set_option maxRecDepth 100000
def dV:ACode:=
 .seq (.seq (gQ [gM 4 0,gF 5 0 4,gF 6 3 5,gL 7 6,gU 8 .eql 7 0]) (.cond (.s 8) (.reg [gM 9 0,gM 10 1,gF 11 0 9,gF 12 3 11,gT 1 12 10]) .skip)) (.reg [gM 13 0,gM 14 0,gF 15 0 14,gF 16 0 15,gL 17 16,gH 18 false 17,gF 19 0 13,gF 20 1 19,gT 1 20 18])
def oa:AFn:=⟨2,21,dV,[]⟩
theorem lf:ax Tryz.prog mU0 Tryz.f59=some oa:=kk
theorem lg:aa Tryz.prog 59=true:=kk
def dW:ACode:=
 .seq (gQ [⟨gO,.alloc 4 [.int .i64 0,.int .i64 0,.bool false,.int .i64 0,.str ⟨#[]⟩,.lst .nil 6 [],.lst .nil 7 [],.str ⟨#[]⟩,.lst .nil 1 [],.lst .nil 10 []]⟩]) (.seq (gQ [gM 8 1,gC 9 162 [.s 8],gM 7 9,gX 10 0 7,gX 11 1 7,⟨gO,.alloc 5 [.int .i64 0,.int .i64 0,.bool false,.int .i64 0,.str ⟨#[]⟩,.lst .nil 6 [],.lst .nil 7 [],.str ⟨#[]⟩,.lst .nil 1 [],.lst .nil 10 []]⟩,gT 10 5 10,gM 6 11]) (.seq (.seq (gQ [gM 12 6,gU 13 .neq 12 0]) (.cond (.s 13) (.reg [gM 14 0,gM 15 6,⟨gO,.calls (some 16) (.k (.fn 59 [])) [.s 14,.s 15]⟩]) .skip)) (.seq (gQ [gA 17 10 5,gT 10 4 17]) .ret)))
def ob:AFn:=⟨2,18,dW,[.cell 4 10 true]⟩
theorem lh:ax Tryz.prog mU0 Tryz.f112=some ob:=kk
theorem li:aa Tryz.prog 112=true:=kk
def dB:ACode:=
 .seq (gQ [⟨gO,.mov 2 (.k (.lst .nil 16 []))⟩,⟨gO,.mov 3 (gS ⟨#[]⟩)⟩,⟨gO,.mov 4 (gS ⟨#[]⟩)⟩]) (.seq (.block 0 (.loop (.seq (.seq (gQ [gM 11 0,gF 12 0 11,gF 13 1 12,gL 14 13,gM 15 0,gF 16 0 15,gF 17 0 16,gL 18 17,gH 19 false 18,gV 20 .lss 14 19]) (.cond (.s 20) .skip (.exit 0))) (.block 1 (.seq (gQ [gM 21 0,gF 22 0 21,gF 23 0 22,gL 24 23,gM 25 0,gF 26 0 25,gF 27 1 26,gL 28 27,gE 29 3 24 28,gA 30 3 29,⟨gO,.alloc 5 [.bool false,.str ⟨#[]⟩,.int .i64 0]⟩,gT 3 5 30]) (.seq (gQ [gM 31 0,gF 32 0 31,gF 33 1 32,gL 34 33,gU 35 .add 34 1,gF 36 0 31,gF 37 1 36,gT 1 37 35]) (.seq (.seq (gQ [gF 38 0 5,gL 39 38,⟨gO,.un 40 .not (.s 39)⟩]) (.cond (.s 40) (.seq (gQ [gM 41 2,gF 42 1 5,gL 43 42,⟨gO,.build 44 [.int .i64 0,.str ⟨#[]⟩,.int .i64 0,.int .i64 0,.bool false,.int .i64 0,.str ⟨#[]⟩,.lst .nil 6 [],.lst .nil 7 [],.str ⟨#[]⟩,.lst .nil 1 [],.lst .nil 10 [],.str ⟨#[]⟩,.str ⟨#[]⟩,.lst .nil 16 [],.lst .nil 16 []] [(1,1,.s 43)]⟩,⟨gO,.bsl 45 1 16 [.int .i64 0,.str ⟨#[]⟩,.int .i64 0,.int .i64 0,.bool false,.int .i64 0,.str ⟨#[]⟩,.lst .nil 6 [],.lst .nil 7 [],.str ⟨#[]⟩,.lst .nil 1 [],.lst .nil 10 [],.str ⟨#[]⟩,.str ⟨#[]⟩,.lst .nil 16 [],.lst .nil 16 []] [(0,16,.s 44)]⟩,⟨gO,.app 46 16 264 (.s 41) (.s 45)⟩,gM 2 46]) (.exit 1)) .skip)) (.seq (gQ [gF 48 1 5,gL 49 48,gC 50 109 [.s 49],gM 47 50,gX 51 0 47,gX 52 1 47,gM 6 51,gM 7 52]) (.seq (.seq (gQ [gM 53 6]) (.block 2 (.seq (.seq (gQ [⟨gO,gB 55 .eql (.s 53) (gS ⟨#[101,110,100]⟩)⟩,gM 54 55]) (.cond (.s 54) .skip (.reg [⟨gO,gB 56 .eql (.s 53) (gS ⟨#[101,108,115,101]⟩)⟩,gM 54 56]))) (.cond (.s 54) (.seq (gQ [gM 57 2,gM 58 6,gM 59 7,gM 2 57,gM 3 58,gM 4 59]) .ret) (.seq (.seq (gQ [⟨gO,gB 61 .eql (.s 53) (gS ⟨#[105,102]⟩)⟩,gM 60 61]) (.cond (.s 60) .skip (.seq (gQ [⟨gO,gB 62 .eql (.s 53) (gS ⟨#[119,105,116,104]⟩)⟩,gM 60 62]) (.cond (.s 60) .skip (.seq (gQ [⟨gO,gB 63 .eql (.s 53) (gS ⟨#[114,97,110,103,101]⟩)⟩,gM 60 63]) (.cond (.s 60) .skip (.reg [⟨gO,gB 64 .eql (.s 53) (gS ⟨#[100,101,102,105,110,101]⟩)⟩,gM 60 64]))))))) (.cond (.s 60) (.seq (gQ [gM 65 2,gM 66 0,gM 67 6,gM 68 7,⟨gO,.calls (some 69) (.k (.fn 110 [])) [.s 66,.s 67,.s 68]⟩,⟨gO,.bsl 70 1 16 [.int .i64 0,.str ⟨#[]⟩,.int .i64 0,.int .i64 0,.bool false,.int .i64 0,.str ⟨#[]⟩,.lst .nil 6 [],.lst .nil 7 [],.str ⟨#[]⟩,.lst .nil 1 [],.lst .nil 10 [],.str ⟨#[]⟩,.str ⟨#[]⟩,.lst .nil 16 [],.lst .nil 16 []] [(0,16,.s 69)]⟩,⟨gO,.app 71 16 264 (.s 65) (.s 70)⟩,gM 2 71]) (.exit 1)) .skip)))))) (.seq (.seq (gQ [gF 73 1 5,gL 74 73,gC 75 111 [.s 74],gM 72 75,gX 76 0 72,gX 77 1 72,gX 78 2 72,gM 8 76,gM 9 77,gM 10 78]) (.seq (gQ [gM 79 10]) (.cond (.s 79) (.seq (gQ [gM 80 2,gM 81 8,gM 82 0,gM 83 9,⟨gO,.calls (some 84) (.k (.fn 112 [])) [.s 82,.s 83]⟩,⟨gO,.build 85 [.int .i64 0,.str ⟨#[]⟩,.int .i64 0,.int .i64 0,.bool false,.int .i64 0,.str ⟨#[]⟩,.lst .nil 6 [],.lst .nil 7 [],.str ⟨#[]⟩,.lst .nil 1 [],.lst .nil 10 [],.str ⟨#[]⟩,.str ⟨#[]⟩,.lst .nil 16 [],.lst .nil 16 []] [(0,1,gI 5),(13,1,.s 81),(2,10,.s 84)]⟩,⟨gO,.bsl 86 1 16 [.int .i64 0,.str ⟨#[]⟩,.int .i64 0,.int .i64 0,.bool false,.int .i64 0,.str ⟨#[]⟩,.lst .nil 6 [],.lst .nil 7 [],.str ⟨#[]⟩,.lst .nil 1 [],.lst .nil 10 [],.str ⟨#[]⟩,.str ⟨#[]⟩,.lst .nil 16 [],.lst .nil 16 []] [(0,16,.s 85)]⟩,⟨gO,.app 87 16 264 (.s 80) (.s 86)⟩,gM 2 87]) (.exit 1)) .skip))) (.reg [gM 88 2,gM 89 0,gF 90 1 5,gL 91 90,⟨gO,.calls (some 92) (.k (.fn 112 [])) [.s 89,.s 91]⟩,⟨gO,.build 93 [.int .i64 0,.str ⟨#[]⟩,.int .i64 0,.int .i64 0,.bool false,.int .i64 0,.str ⟨#[]⟩,.lst .nil 6 [],.lst .nil 7 [],.str ⟨#[]⟩,.lst .nil 1 [],.lst .nil 10 [],.str ⟨#[]⟩,.str ⟨#[]⟩,.lst .nil 16 [],.lst .nil 16 []] [(0,1,gI 1),(2,10,.s 92)]⟩,⟨gO,.bsl 94 1 16 [.int .i64 0,.str ⟨#[]⟩,.int .i64 0,.int .i64 0,.bool false,.int .i64 0,.str ⟨#[]⟩,.lst .nil 6 [],.lst .nil 7 [],.str ⟨#[]⟩,.lst .nil 1 [],.lst .nil 10 [],.str ⟨#[]⟩,.str ⟨#[]⟩,.lst .nil 16 [],.lst .nil 16 []] [(0,16,.s 93)]⟩,⟨gO,.app 95 16 264 (.s 88) (.s 94)⟩,gM 2 95]))))))))))) (.seq (gQ [gM 96 2,gM 2 96,⟨gO,.mov 3 (gS ⟨#[]⟩)⟩,⟨gO,.mov 4 (gS ⟨#[]⟩)⟩]) .ret))
def mU:AFn:=⟨1,97,dB,[.tmp 2,.tmp 3,.tmp 4]⟩
theorem kj:ax Tryz.prog mU0 Tryz.f58=some mU:=kk
theorem kl:aa Tryz.prog 58=true:=kk
def dX:ACode:=
 .seq (gQ [⟨gO,.alloc 6 [.int .i64 0,.str ⟨#[]⟩,.int .i64 0,.int .i64 0,.bool false,.int .i64 0,.str ⟨#[]⟩,.lst .nil 6 [],.lst .nil 7 [],.str ⟨#[]⟩,.lst .nil 1 [],.lst .nil 10 [],.str ⟨#[]⟩,.str ⟨#[]⟩,.lst .nil 16 [],.lst .nil 16 []]⟩]) (.seq (.seq (gQ [gM 19 1]) (.block 0 (.seq (gQ [⟨gO,gB 21 .eql (.s 19) (gS ⟨#[105,102]⟩)⟩,gM 20 21]) (.cond (.s 20) (.seq (gQ [gM 22 0,gM 23 2,⟨gO,.calls (some 24) (.k (.fn 112 [])) [.s 22,.s 23]⟩,⟨gO,.build 25 [.int .i64 0,.str ⟨#[]⟩,.int .i64 0,.int .i64 0,.bool false,.int .i64 0,.str ⟨#[]⟩,.lst .nil 6 [],.lst .nil 7 [],.str ⟨#[]⟩,.lst .nil 1 [],.lst .nil 10 [],.str ⟨#[]⟩,.str ⟨#[]⟩,.lst .nil 16 [],.lst .nil 16 []] [(0,1,gI 2),(2,10,.s 24)]⟩,gT 16 6 25]) .ret) (.seq (gQ [⟨gO,gB 27 .eql (.s 19) (gS ⟨#[119,105,116,104]⟩)⟩,gM 26 27]) (.cond (.s 26) (.seq (gQ [gM 28 0,gM 29 2,⟨gO,.calls (some 30) (.k (.fn 112 [])) [.s 28,.s 29]⟩,⟨gO,.build 31 [.int .i64 0,.str ⟨#[]⟩,.int .i64 0,.int .i64 0,.bool false,.int .i64 0,.str ⟨#[]⟩,.lst .nil 6 [],.lst .nil 7 [],.str ⟨#[]⟩,.lst .nil 1 [],.lst .nil 10 [],.str ⟨#[]⟩,.str ⟨#[]⟩,.lst .nil 16 [],.lst .nil 16 []] [(0,1,gI 3),(2,10,.s 30)]⟩,gT 16 6 31]) .ret) (.seq (gQ [⟨gO,gB 33 .eql (.s 19) (gS ⟨#[100,101,102,105,110,101]⟩)⟩,gM 32 33]) (.cond (.s 32) (.seq (gQ [gM 35 2,gC 36 162 [.s 35],gM 34 36,gX 37 0 34,gX 38 1 34,⟨gO,.alloc 7 [.int .i64 0,.int .i64 0,.bool false,.int .i64 0,.str ⟨#[]⟩,.lst .nil 6 [],.lst .nil 7 [],.str ⟨#[]⟩,.lst .nil 1 [],.lst .nil 10 []]⟩,gT 10 7 37,gM 8 38]) (.seq (.seq (gQ [gM 39 8,gU 40 .neq 39 0,gM 41 40,⟨some (41,false),.off 42 0 (.s 7)⟩,⟨some (41,false),.ld 43 1 false (.s 42)⟩,⟨some (41,false),.bin 44 .neq false (.s 43) (gI 0)⟩,⟨gO,.pick 45 (.s 41) (.k (.bool true)) (.s 44)⟩,gM 46 45,⟨some (46,false),.off 47 1 (.s 7)⟩,⟨some (46,false),.off 48 0 (.s 47)⟩,⟨some (46,false),.ld 49 1 false (.s 48)⟩,⟨some (46,false),.bin 50 .neq false (.s 49) (gI 3)⟩,⟨gO,.pick 51 (.s 46) (.k (.bool true)) (.s 50)⟩,gM 52 51,⟨some (52,false),.off 53 1 (.s 7)⟩,⟨some (52,false),.off 54 3 (.s 53)⟩,⟨some (52,false),.ld 55 1 false (.s 54)⟩,⟨some (52,false),.call (some 56) (.k (.fn 211 [])) [.s 55]⟩,⟨some (52,false),.un 57 .not (.s 56)⟩,⟨gO,.pick 58 (.s 52) (.k (.bool true)) (.s 57)⟩,gM 59 58,gN 59 false 60 0,⟨some (59,false),.off 61 0 (.s 60)⟩,⟨some (59,false),.off 62 2 (.s 61)⟩,⟨some (59,false),.ld 63 1 false (.s 62)⟩,⟨some (59,false),.bin 64 .gtr false (.s 63) (gI 1)⟩,⟨gO,.pick 65 (.s 59) (.k (.bool true)) (.s 64)⟩]) (.cond (.s 65) (.reg [gM 66 0,gM 67 8,⟨gO,.bsl 68 2 1 [.int .i64 0,.int .i64 0] [(0,1,.s 67),(1,1,gI 22)]⟩,gC 69 212 [.s 68],⟨gO,.calls (some 70) (.k (.fn 59 [])) [.s 66,.s 69]⟩]) .skip)) (.seq (gQ [gF 71 1 7,gF 72 3 71,gL 73 72,⟨gO,.build 74 [.int .i64 0,.str ⟨#[]⟩,.int .i64 0,.int .i64 0,.bool false,.int .i64 0,.str ⟨#[]⟩,.lst .nil 6 [],.lst .nil 7 [],.str ⟨#[]⟩,.lst .nil 1 [],.lst .nil 10 [],.str ⟨#[]⟩,.str ⟨#[]⟩,.lst .nil 16 [],.lst .nil 16 []] [(0,1,gI 6),(13,1,.s 73)]⟩,gT 16 6 74]) .ret))) .skip)))))))) (.seq (gQ [⟨gO,.build 75 [.int .i64 0,.str ⟨#[]⟩,.int .i64 0,.int .i64 0,.bool false,.int .i64 0,.str ⟨#[]⟩,.lst .nil 6 [],.lst .nil 7 [],.str ⟨#[]⟩,.lst .nil 1 [],.lst .nil 10 [],.str ⟨#[]⟩,.str ⟨#[]⟩,.lst .nil 16 [],.lst .nil 16 []] [(0,1,gI 4)]⟩,⟨gO,.alloc 9 [.int .i64 0,.str ⟨#[]⟩,.int .i64 0,.int .i64 0,.bool false,.int .i64 0,.str ⟨#[]⟩,.lst .nil 6 [],.lst .nil 7 [],.str ⟨#[]⟩,.lst .nil 1 [],.lst .nil 10 [],.str ⟨#[]⟩,.str ⟨#[]⟩,.lst .nil 16 [],.lst .nil 16 []]⟩,gT 16 9 75]) (.seq (.seq (gQ [gM 77 2,gC 78 160 [.s 77],gM 76 78,gX 79 0 76,gX 80 1 76,gX 81 2 76,gM 10 79,gM 11 80,gM 12 81]) (.seq (gQ [gM 82 12,gM 83 82,gN 83 true 84 11,⟨some (83,true),.call (some 85) (.k (.fn 42 [])) [.s 84,gS ⟨#[44]⟩]⟩,⟨gO,.pick 86 (.s 83) (.s 85) (.k (.bool false))⟩]) (.cond (.s 86) (.seq (gQ [gM 88 11,⟨gO,.sub 89 true 0 (.s 88) (some (gI 1)) none⟩,gC 90 111 [.s 89],gM 87 90,gX 91 0 87,gX 92 1 87,gX 93 2 87,gM 13 91,gM 14 92,gM 15 93]) (.seq (gQ [gM 94 15]) (.cond (.s 94) (.reg [gM 95 10,gM 96 13,gM 97 14,gF 98 12 9,gT 1 98 95,gF 99 13 9,gT 1 99 96,gM 2 97]) .skip))) (.seq (gQ [gM 101 2,gC 102 111 [.s 101],gM 100 102,gX 103 0 100,gX 104 1 100,gX 105 2 100,gM 16 103,gM 17 104,gM 18 105]) (.seq (gQ [gM 106 18]) (.cond (.s 106) (.reg [gM 107 16,gM 108 17,gF 109 13 9,gT 1 109 107,gM 2 108]) .skip)))))) (.seq (gQ [gM 110 0,gM 111 2,⟨gO,.calls (some 112) (.k (.fn 112 [])) [.s 110,.s 111]⟩,gF 113 2 9,gT 10 113 112]) (.seq (gQ [gA 114 16 9,gT 16 6 114]) .ret)))))
def oc:AFn:=⟨3,115,dX,[.cell 6 16 true]⟩
theorem lj:ax Tryz.prog mU0 Tryz.f159=some oc:=kk
theorem lk:aa Tryz.prog 159=true:=kk
def dC:ACode:=
 .seq (gQ [⟨gO,.alloc 6 [.int .i64 0,.str ⟨#[]⟩,.int .i64 0,.int .i64 0,.bool false,.int .i64 0,.str ⟨#[]⟩,.lst .nil 6 [],.lst .nil 7 [],.str ⟨#[]⟩,.lst .nil 1 [],.lst .nil 10 [],.str ⟨#[]⟩,.str ⟨#[]⟩,.lst .nil 16 [],.lst .nil 16 []]⟩]) (.seq (.seq (gQ [gM 13 0,gF 14 0 13,gF 15 2 14,gL 16 15,gU 17 .add 16 1,gF 18 0 13,gF 19 2 18,gT 1 19 17]) (.seq (gQ [gM 20 0,gF 21 0 20,gF 22 2 21,gL 23 22,gU 24 .gtr 23 16]) (.cond (.s 24) (.seq (gQ [gM 25 0,⟨gO,.calls (some 26) (.k (.fn 59 [])) [.s 25,gI 5]⟩]) (.seq (gQ [⟨gO,.build 27 [.int .i64 0,.str ⟨#[]⟩,.int .i64 0,.int .i64 0,.bool false,.int .i64 0,.str ⟨#[]⟩,.lst .nil 6 [],.lst .nil 7 [],.str ⟨#[]⟩,.lst .nil 1 [],.lst .nil 10 [],.str ⟨#[]⟩,.str ⟨#[]⟩,.lst .nil 16 [],.lst .nil 16 []] []⟩,gT 16 6 27]) .ret)) .skip))) (.seq (gQ [gM 28 0,gM 29 1,gM 30 2,⟨gO,.calls (some 31) (.k (.fn 159 [])) [.s 28,.s 29,.s 30]⟩,⟨gO,.alloc 7 [.int .i64 0,.str ⟨#[]⟩,.int .i64 0,.int .i64 0,.bool false,.int .i64 0,.str ⟨#[]⟩,.lst .nil 6 [],.lst .nil 7 [],.str ⟨#[]⟩,.lst .nil 1 [],.lst .nil 10 [],.str ⟨#[]⟩,.str ⟨#[]⟩,.lst .nil 16 [],.lst .nil 16 []]⟩,gT 16 7 31]) (.seq (gQ [gM 33 0,⟨gO,.calls (some 34) (.k (.fn 58 [])) [.s 33]⟩,gM 32 34,gX 35 0 32,gX 36 1 32,gX 37 2 32,gM 8 35,gM 9 36,gM 10 37]) (.seq (gQ [gM 38 8,gF 39 14 7,gT 1 39 38]) (.seq (gQ [gM 41 10,⟨gO,.call (some 42) (.k (.fn 89 [])) [.s 41,gS ⟨#[32,9,10]⟩]⟩,gC 43 109 [.s 42],gM 40 43,gX 44 0 40,gX 45 1 40,gM 11 44,gM 12 45]) (.seq (.block 0 (.seq (gQ [gM 47 9,⟨gO,gB 48 .eql (.s 47) (gS ⟨#[101,108,115,101]⟩)⟩,gM 49 48,gN 49 true 50 1,⟨some (49,true),.bin 51 .eql false (.s 50) (gS ⟨#[105,102]⟩)⟩,⟨gO,.pick 52 (.s 49) (.s 51) (.k (.bool false))⟩,gM 53 52,gN 53 true 54 11,⟨some (53,true),.bin 55 .eql false (.s 54) (gS ⟨#[105,102]⟩)⟩,⟨gO,.pick 56 (.s 53) (.s 55) (.k (.bool false))⟩,gM 46 56]) (.cond (.s 46) (.seq (gQ [gM 57 0,gM 58 12,⟨gO,.calls (some 59) (.k (.fn 110 [])) [.s 57,gS ⟨#[105,102]⟩,.s 58]⟩,⟨gO,.bsl 60 1 16 [.int .i64 0,.str ⟨#[]⟩,.int .i64 0,.int .i64 0,.bool false,.int .i64 0,.str ⟨#[]⟩,.lst .nil 6 [],.lst .nil 7 [],.str ⟨#[]⟩,.lst .nil 1 [],.lst .nil 10 [],.str ⟨#[]⟩,.str ⟨#[]⟩,.lst .nil 16 [],.lst .nil 16 []] [(0,16,.s 59)]⟩,gF 61 15 7,gT 1 61 60]) (.seq (gQ [gM 62 0,gF 63 0 62,gF 64 2 63,gL 65 64,gU 66 .sub 65 1,gF 67 0 62,gF 68 2 67,gT 1 68 66]) (.seq (gQ [gA 69 16 7,gT 16 6 69]) .ret))) (.seq (gQ [gM 71 9,⟨gO,gB 72 .eql (.s 71) (gS ⟨#[101,108,115,101]⟩)⟩,gM 73 72,gN 73 true 74 1,⟨some (73,true),.bin 75 .neq false (.s 74) (gS ⟨#[100,101,102,105,110,101]⟩)⟩,⟨gO,.pick 76 (.s 73) (.s 75) (.k (.bool false))⟩,gM 77 76,gN 77 true 78 10,⟨some (77,true),.call (some 79) (.k (.fn 89 [])) [.s 78,gS ⟨#[32,9,10]⟩]⟩,⟨some (77,true),.bin 80 .eql false (.s 79) (gS ⟨#[]⟩)⟩,⟨gO,.pick 81 (.s 77) (.s 80) (.k (.bool false))⟩,gM 70 81]) (.cond (.s 70) (.reg [gM 83 0,⟨gO,.calls (some 84) (.k (.fn 58 [])) [.s 83]⟩,gM 82 84,gX 85 0 82,gX 86 1 82,gX 87 2 82,gF 88 15 7,gT 1 88 85,gM 9 86,gM 10 87]) .skip))))) (.seq (.seq (gQ [gM 89 9,⟨gO,gB 90 .neq (.s 89) (gS ⟨#[101,110,100]⟩)⟩,gM 91 90,gN 91 false 92 10,⟨some (91,false),.call (some 93) (.k (.fn 89 [])) [.s 92,gS ⟨#[32,9,10]⟩]⟩,⟨some (91,false),.bin 94 .neq false (.s 93) (gS ⟨#[]⟩)⟩,⟨gO,.pick 95 (.s 91) (.k (.bool true)) (.s 94)⟩]) (.cond (.s 95) (.reg [gM 96 0,⟨gO,.calls (some 97) (.k (.fn 59 [])) [.s 96,gI 21]⟩]) .skip)) (.seq (gQ [gM 98 0,gF 99 0 98,gF 100 2 99,gL 101 100,gU 102 .sub 101 1,gF 103 0 98,gF 104 2 103,gT 1 104 102]) (.seq (gQ [gA 105 16 7,gT 16 6 105]) .ret)))))))))
def mV:AFn:=⟨3,106,dC,[.cell 6 16 true]⟩
theorem km:ax Tryz.prog mU0 Tryz.f110=some mV:=kk
theorem kn:aa Tryz.prog 110=true:=kk
def xl:ACode:=
 .seq (gQ [⟨gO,.mov 2 (.k (.lst .nil 16 []))⟩,gJ 3 0]) (.seq (gQ [gM 11 0,gC 12 57 [.s 11],gM 10 12,gX 13 0 10,gX 14 1 10,gM 4 13,gM 5 14]) (.seq (.seq (gQ [gM 15 5,gU 16 .neq 15 0]) (.cond (.s 16) (.seq (gQ [gM 17 5,⟨gO,.mov 2 (.k (.lst .nil 16 []))⟩,gM 3 17]) .ret) .skip)) (.seq (gQ [gM 18 4,⟨gO,.build 19 [.lst .nil 3 [],.int .i64 0,.int .i64 0,.int .i64 0] [(0,1,.s 18)]⟩,gP 20 19,gM 6 20]) (.seq (gQ [gM 22 6,⟨gO,.calls (some 23) (.k (.fn 58 [])) [.s 22]⟩,gM 21 23,gX 24 0 21,gX 25 1 21,gX 26 2 21,gM 7 24,gM 8 25,gM 9 26]) (.seq (.seq (gQ [gM 27 8,⟨gO,gB 28 .neq (.s 27) (gS ⟨#[]⟩)⟩]) (.cond (.s 28) (.reg [gM 29 6,⟨gO,.calls (some 30) (.k (.fn 59 [])) [.s 29,gI 21]⟩]) .skip)) (.seq (.seq (gQ [gM 31 6,gF 32 0 31,gF 33 3 32,gL 34 33,gU 35 .neq 34 0]) (.cond (.s 35) (.seq (gQ [gM 36 6,gF 37 0 36,gF 38 3 37,gL 39 38,⟨gO,.mov 2 (.k (.lst .nil 16 []))⟩,gM 3 39]) .ret) .skip)) (.seq (gQ [gM 40 7,gM 2 40,gJ 3 0]) .ret)))))))
def xm:AFn:=⟨1,41,xl,[.tmp 2,.tmp 3]⟩
theorem rb:ax Tryz.prog mU0 Tryz.f25=some xm:=kk
theorem rc:aa Tryz.prog 25=true:=kk
end
section
open Go.RowKit
abbrev mnC (m:MK):List AV:= [.lst .any 3 (ba m.l),.int .i64 (m.at_:Int),.int .i64 m.deep,.int .i64 m.bad]
abbrev mnS (m:MK):List (Nat×List AV):= [(2000000,mnC m)]
theorem pt (m:MK) (e:Int):MS Tryz.prog 59 (mnS m) [.np 2000000 0,.int .i64 e] (mnS (m.fail e)) (.tup []):=by
 obtain ⟨l,at_,i,j⟩:=m;have hlen:(((ba l).length:Nat):Int)=(l.length:Int):=by rw [aZ]
 refine MS.enter Tryz.func59 lf lg (by rfl) (by rfl) fun E r=> ?_
 show AK _ _ _ [.c dV] _ _;rw [dV];refine kW ?_;refine kC (fun hb=> ?_) fun hb=> ?_
 ·have g:j=0:=by simpa using hb
  have p:(⟨l,at_,i,j⟩:MK).fail e=⟨l,l.length,i,e⟩:=by unfold MK.fail;rw [if_pos g]
  rw [p];refine kW ?_;show RQS _ _ _ .normal _ _;exact ⟨⟨_,rfl,rfl⟩,⟨_,rfl,congrArg (fun n:Int=> [AV.lst .any 3 (ba l),.int .i64 n,.int .i64 i,.int .i64 e]) hlen⟩,trivial⟩
 ·have g: ¬j=0:=by simpa using hb
  have p:(⟨l,at_,i,j⟩:MK).fail e=⟨l,l.length,i,j⟩:=by unfold MK.fail;rw [if_neg g]
  rw [p];refine kW ?_;show RQS _ _ _ .normal _ _;exact ⟨⟨_,rfl,rfl⟩,⟨_,rfl,congrArg (fun n:Int=> [AV.lst .any 3 (ba l),.int .i64 n,.int .i64 i,.int .i64 j]) hlen⟩,trivial⟩
theorem pu (m:MK) (s:Bs) (hl:s.length≤1000000):MS Tryz.prog 112 (mnS m) [.np 2000000 0,.str (toB s)] (mnS (m.pipe s).2) (.agg (m.pipe s).1.row):=by
 have g:=Ko s hl;unfold MK.pipe;generalize s7 s=q at*;obtain ⟨x,e⟩:=q;have j:=pt m e;obtain ⟨l,at_,p,r⟩:=m;dsimp only at g⊢;rw [EX.row_eq] at g⊢;refine MS.enter Tryz.func112 lh li (by rfl) (by rfl) fun E C=> ?_
 show AK _ _ _ [.c dW] _ _;rw [dW];refine kW ?_;refine kQ [.v (.tup [.agg (exV x),.int .i64 e])] ?_;refine kW ?_;refine kC (fun hb=> ?_) fun hb=> ?_
 ·have i:e≠0:=by simpa using hb
  rw [if_pos i];refine kW ?_;refine kQ [.s [2000000] (mnS ((⟨l,at_,p,r⟩:MK).fail e)) (.tup [])] ?_;refine kW ?_;exact aR ⟨⟨_,rfl,rfl⟩,⟨_,rfl,rfl⟩,trivial⟩
 ·have i:e=0:=by simpa using hb
  rw [if_neg (fun h=>h i)];refine kW ?_;exact aR ⟨⟨_,rfl,rfl⟩,⟨_,rfl,rfl⟩,trivial⟩
theorem Im {s:Bs} {k:Nat} (i:k≤(nmL s).length) (g:k<s.length):(!atP mR s k||(decide ((k:Int)=0)&& !atP il s k))= !decide (k<(nmL s).length):=by
 rw [←EG i];obtain ⟨c,j⟩: ∃c,s[k]? =some c:=⟨_,gA1 g⟩
 unfold atP;rw [j];dsimp only
 have:decide ((k:Int)=0)= !decide (0<k):=by
  rw [Bool.eq_iff_iff];simp
 rw [this];cases mR c<;>cases decide (0<k)<;>cases il c<;>rfl
theorem JW (s:Bs) (hl:s.length≤1000000):AC Tryz.prog 211 [.str (toB s)] (.bool (H2 s)):=by
 have J:=fO s;have r:=EH s;refine kE Tryz.func211 sZ s4 fun E U=> ?_
 refine kW ?_;refine aJ (fun k:Nat=>(au [(0,.str (toB s)),(5,.int .i64 s.length),(6,.int .i64 k)],⟨ag [],fun _=>0⟩)) (fun k=>k≤(nmL s).length) (fun k=>s.length-k) 0 (gB8 _) (wN ⟨kI,⟨_,rfl,.of_eq (congrArg (AV.int _) (congrArg Int.ofNat (ab s)))⟩,kI,trivial⟩ trivial rfl rfl trivial) fun k P=> ?_
 refine kW ?_;refine kC (fun hb=> ?_) fun hb=> ?_
 ·have i:k<s.length:=by simpa using hb
  clear hb;have g:=Im P i;obtain ⟨c,C⟩: ∃c,s[k]? =some c:=⟨_,gA1 i⟩
  have p:(toB s).data.getD (k:Int).toNat 0=c:=em (by simpa using C);refine kW ?_;refine kP [.v (.bool (atP mR s k)),.v (.bool (atP il s k))] ?_ ?_
  ·((repeat' apply aI)<;>first|exact kD|(intro R;refine ⟨?_,kG⟩;(repeat' apply aI)<;>first|exact kD|skip)|skip)
   all_goals first
    |(rw [ab];omega)
    |(rw [p,qY C];exact EF c)
    |(rw [p,qY C];exact jt c)
  refine kC (fun hb=> ?_) fun hb=> ?_
  ·have j: ¬k<(nmL s).length:=by
    have h:(!decide (k<(nmL s).length))=true:=g.symm.trans hb;simpa using h
   clear hb g;refine kW ?_;refine aR ⟨_,rfl,?_⟩;refine congrArg AV.bool ?_;unfold H2;rw [decide_eq_false (show¬nmL s=s from fun h=>by rw [h] at j;exact j i)];rfl
  ·have j:k<(nmL s).length:=by
    have h:(!decide (k<(nmL s).length))=false:=g.symm.trans hb;simpa using h
   clear hb g;refine kW ?_;exact AK.lp ⟨k+1,by omega,wN ⟨kI,kI,kU,trivial⟩ trivial rfl rfl trivial,by omega⟩
 ·have T:s.length≤k:=by
   have: ¬k<s.length:=by simpa using hb
   omega
  clear hb;refine AK.exit rfl ?_;have I:nmL s=s:=by rw [←r,List.take_of_length_le (by omega)]
  refine kW ?_;refine kQ [] ?_;refine kW ?_;refine aR ⟨_,rfl,?_⟩;refine congrArg AV.bool ?_;unfold H2;rw [decide_eq_true I,bG,Bool.true_and];congr 1;rw [decide_eq_decide,ab];omega
theorem ND.row_eq (k:Nat) (t:ByteArray) (x:EX) (key n:ByteArray) (b l:List ND):(ND.mk k t x key n b l).row= [.int .i64 (k:Int),.str t]++exV x++ [.str key,.str n,.lst .any 16 (aM b),.lst .any 16 (aM l)]:=by
 show ndH k t x key n++_=_;unfold ndH;rw [EX.row_eq];rfl
theorem LK (e:Int) (k:Nat) (g:Int) (b:Bool) (d:Int):((((!decide (e=0)|| !decide ((k:Int)=0))|| !decide (g=3))|| !b)||decide (d>1))=decide (e≠0∨k≠0∨g≠3∨b=false∨1<d):=by
 rw [Bool.eq_iff_iff];cases b<;>simp<;>omega
theorem FZ {w:ByteArray} (h:(bi w).1.kind=2):(bi w).1.s.size=0:=by
 unfold bi at h⊢;by_cases hA:w=⟨#[]⟩∨w=⟨#[126]⟩∨w=lO
 ·rw [if_pos hA];rfl
 ·rw [if_neg hA] at h⊢
  by_cases g:w=fE∨w=iK
  ·rw [if_pos g];rfl
  ·rw [if_neg g] at h⊢
   by_cases i:sK w=false
   ·rw [if_pos i] at h
    exfalso
    revert h
    show (3:Int)=2→False;decide
   ·rw [if_neg i]
    cases Lib.atoiAll w.data.toList<;>rfl
theorem iQ: ∀(n:Nat) (m:PM) (r:RD) (N:Nat),(match m with| .bars x=>x.v.s.size|_=>0)≤N→r.s.length≤N→(exF n m r).1.v.s.size≤N
 |0,m,r,N,_,_=>gB8 _
 |n+1,.operand,r,N,j,C=>by
  have hl:=cA r.s;rw [exF];cases I:tlw r.s with
  |nil=>exact gB8 _
  |cons c t=>
   rw [I,gA3] at hl;dsimp only;split
   ·cases P:lP (c::t) with
    |none=>exact gB8 _
    |some p=>
     obtain ⟨x,rest⟩:=p;have R:=iw P;rw [gA3] at R;show (toB x).size≤N;rw [ab];omega
   ·split
    ·unfold qR
     generalize J:bi (toB (r.skip.s.take (im r.skip.s)))=q;obtain ⟨v,e⟩:=q;dsimp only;split
     ·exact gB8 _
     ·rename_i T
      have:=FZ (w:=toB (r.skip.s.take (im r.skip.s))) (by rw [J];exact Classical.not_not.1 fun h=>T (.inr h));rw [J] at this;have this:v.s.size=0:=this;show v.s.size≤N;omega
    ·split
     ·exact gB8 _
     ·split
      ·split<;>exact gB8 _
      ·split
       ·split
        ·exact gB8 _
        ·have ih:=iQ n .pipe ⟨t,IntKind.i64.wrap (r.deep+1),r.bad⟩ N (gB8 _) (by show t.length≤N;omega)
         generalize exF n .pipe ⟨t,IntKind.i64.wrap (r.deep+1),r.bad⟩=q at ih;obtain ⟨x,b,i⟩:=q;dsimp only at ih⊢;split
         ·exact gB8 _
         ·split
          ·exact ih
          ·exact gB8 _
       ·split
        ·split
         ·exact gB8 _
         ·split<;>exact gB8 _
        ·exact gB8 _
 |n+1,.command,r,N,j,C=>by
  rw [exF];have ih:=iQ n .operand r N (gB8 _) C;have g:=(bN n .operand r).1;generalize exF n .operand r=q at ih g;obtain ⟨x,b,i⟩:=q;have g:x.args.length+i.s.length≤0+r.s.length:=g;cases b with
  |true=>exact ih
  |false=>
   dsimp only;split
   ·exact gB8 _
   ·exact iQ n (.args _ []) _ N (gB8 _) (by show (i.s.drop _).length≤N;rw [gA6];omega)
 |n+1,.args nm out,r,N,j,C=>by
  rw [exF];have g:=(bN n .operand r).1;generalize exF n .operand r=q at g;obtain ⟨x,b,i⟩:=q;have g:x.args.length+i.s.length≤0+r.s.length:=g;cases b with
  |true=>exact iQ n (.args _ _) _ N (gB8 _) (by show i.s.length≤N;omega)
  |false=>
   dsimp only;split
   ·exact gB8 _
   ·exact iQ n (.args _ _) _ N (gB8 _) (by show (i.s.drop _).length≤N;rw [gA6];omega)
 |n+1,.pipe,r,N,j,C=>by
  rw [exF];have ih:=iQ n .command r N (gB8 _) C;have g:=(bN n .command r).1;generalize exF n .command r=q at ih g;obtain ⟨x,b,i⟩:=q;have g:x.args.length+i.s.length≤0+r.s.length:=g;exact iQ n (.bars x) i N ih (by omega)
 |n+1,.bars x,r,N,j,C=>by
  have hl:=cA r.s;rw [exF];cases I:tlw r.s with
  |nil=>exact j
  |cons c t=>
   rw [I,gA3] at hl;dsimp only;split
   ·have ih:=iQ n .command (r.to t) N (gB8 _) (by show t.length≤N;omega)
    have g:=(bN n .command (r.to t)).1;generalize exF n .command (r.to t)=q at ih g;obtain ⟨y,b,i⟩:=q;have g:y.args.length+i.s.length≤0+t.length:=g;dsimp only at ih⊢;split
    ·exact gB8 _
    ·exact iQ n (.bars _) i N ih (by omega)
   ·exact j
theorem EK (s:Bs):(s7 s).1.v.s.size≤s.length:=by
 have h:=iQ (4*s.length+4) .pipe ⟨s,0,0⟩ s.length (gB8 _) (gA4 _);unfold s7;generalize exF (4*s.length+4) .pipe ⟨s,0,0⟩=q at h;obtain ⟨x,b,r⟩:=q;dsimp only at h⊢;split
 ·exact gB8 _
 ·split
  ·exact gB8 _
  ·exact h
theorem tb (w p:Bs):decide (toB w=toB p)=decide (w=p):=decide_eq_decide.2 cP
theorem vV (s:Bs):(mS s).2.1.length≤s.length:=by
 have hl:=cA s;unfold mS JI;cases g:tlw s with
 |nil=>exact gB8 _
 |cons c t=>
  rw [g,gA3] at hl;dsimp only;split
  ·exact gB8 _
  ·rename_i h
   split at h
   ·cases h
    have:=cA (t.drop (nmL t).length);rw [gA6] at this;show (tlw (t.drop (nmL t).length)).length≤_;omega
   ·cases h
theorem vW (s:Bs):(iO s).2.1.length≤s.length:=by
 have hl:=vV s;unfold iO;generalize mS s=q at*;obtain ⟨n,r,b⟩:=q;dsimp only at hl⊢;cases b
 ·exact hl
 ·dsimp only
  split
  ·show (r.drop 2).length≤_
   rw [gA6];omega
  ·exact hl
abbrev ndZ (k:Int) (key nm:ByteArray):List AV:= [.int .i64 k,.str ⟨#[]⟩,.int .i64 0,.int .i64 0,.bool false,.int .i64 0,.str ⟨#[]⟩,.lst .nil 6 [],.lst .nil 7 [],.str ⟨#[]⟩,.lst .nil 1 [],.lst .nil 10 [],.str key,.str nm,.lst .nil 16 [],.lst .nil 16 []]
theorem JX (m:MK) (w s:Bs) (hl:s.length≤1000000):MS Tryz.prog 159 (mnS m) [.np 2000000 0,.str (toB w),.str (toB s)] (mnS (eK m w s).2) (.agg (eK m w s).1.row):=by
 refine MS.enter Tryz.func159 lj lk (by rfl) (by rfl) fun E hE=> ?_
 show AK _ _ _ [.c dX] _ _;rw [dX];refine kW ?_;rw [show decide (toB w=⟨#[105,102]⟩)=decide (w=wIf) from tb w wIf];by_cases r:w=wIf
 ·have i:=pu m s hl
  unfold eK;rw [if_pos r,ND.row_eq,decide_eq_true r];rw [EX.row_eq] at i;generalize m.pipe s=q at i⊢;refine kCt ?_;refine kW ?_;refine kQ [.s [2000000] (mnS q.2) (.agg (exV q.1))] ?_;exact aR ⟨⟨_,rfl,rfl⟩,⟨_,rfl,rfl⟩,trivial⟩
 rw [decide_eq_false r];refine kCf ?_;refine kW ?_;rw [show decide (toB w=⟨#[119,105,116,104]⟩)=decide (w=rS) from tb w rS];by_cases C:w=rS
 ·have i:=pu m s hl
  unfold eK;rw [if_neg r,if_pos C,ND.row_eq,decide_eq_true C];rw [EX.row_eq] at i;generalize m.pipe s=q at i⊢;refine kCt ?_;refine kW ?_;refine kQ [.s [2000000] (mnS q.2) (.agg (exV q.1))] ?_;exact aR ⟨⟨_,rfl,rfl⟩,⟨_,rfl,rfl⟩,trivial⟩
 rw [decide_eq_false C];refine kCf ?_;refine kW ?_;rw [show decide (toB w=⟨#[100,101,102,105,110,101]⟩)=decide (w=s8) from tb w s8];by_cases h3:w=s8
 ·have j:=Ko s hl
  have I:=EK s;unfold eK;rw [if_neg r,if_neg C,if_pos h3,decide_eq_true h3];generalize s7 s=q at j I⊢;obtain ⟨x,e⟩:=q;dsimp only at j I⊢;have hnm:=JW x.v.s.data.toList (by show x.v.s.size≤_;omega);have hor:=BX e 22;have hfl:=pt m (if e=0 then 22 else e);rw [EX.row_eq] at j;rw [ND.row_eq];refine kCt ?_;refine kW ?_;refine kQ [.v (.tup [.agg (exV x),.int .i64 e])] ?_;refine kW ?_;refine kQ [.v (.bool (H2 x.v.s.data.toList))] ?_;rw [LK];refine kC (fun hb=> ?_) fun hb=> ?_
  ·have hd:=gB3 hb
   clear hb;rw [if_pos hd];refine kW ?_;refine kQ [.v (.int .i64 (if e=0 then 22 else e)),.s [2000000] (mnS (m.fail (if e=0 then 22 else e))) (.tup [])] ?_;refine kW ?_;exact aR ⟨⟨_,rfl,rfl⟩,⟨_,rfl,rfl⟩,trivial⟩
  ·have hd:=gB4 hb
   clear hb;rw [if_neg hd];refine kW ?_;exact aR ⟨⟨_,rfl,rfl⟩,⟨_,rfl,rfl⟩,trivial⟩
 rw [decide_eq_false h3];refine kCf ?_;refine kW ?_;have hv:=vS s hl;have J:=DT s hl
 have e:eK m w s=(.mk 4 ⟨#[]⟩ (m.pipe (fB s).2.2).1 (toB (fB s).1) (toB (fB s).2.1) [] [],(m.pipe (fB s).2.2).2):=by
  unfold eK;rw [if_neg r,if_neg C,if_neg h3]
 rw [e,ND.row_eq];clear e;unfold fB;have P:=vV s;generalize mS s=q at hv P⊢;obtain ⟨key,rest,b⟩:=q;dsimp only at hv P⊢;have hpr:=eQ rest 44;rw [show bF 44 rest=([44]:Bs).isPrefixOf rest from by cases rest<;>simp [bF,List.isPrefixOf,BEq.comm]] at hpr;refine kQ [.v (.tup [.str (toB key),.str (toB rest),.bool b])] ?_;refine kW ?_;refine kQ [.v (.bool (([44]:Bs).isPrefixOf rest))] ?_
 obtain ⟨g,hg⟩: ∃g:Bs×Bs×Bs,g=(if (b&&([44]:Bs).isPrefixOf rest)=true then (match iO (rest.drop 1) with
   |(name,more,is)=>if is=true then (key,name,more) else ([],[],s))
  else (match iO s with
   |(name,more,is)=>if is=true then ([],name,more) else ([],[],s))):=⟨_,rfl⟩
 rw [←hg]
 have R:g.2.2.length≤1000000:=by
  have a1:=vW (rest.drop 1);have a2:=vW s;rw [gA6] at a1;generalize iO (rest.drop 1)=q1 at hg a1;generalize iO s=T at hg a2;obtain ⟨n1,m1,c1⟩:=q1;obtain ⟨n2,U,c2⟩:=T;dsimp only at hg a1 a2;rw [hg];cases b&&([44]:Bs).isPrefixOf rest<;>cases c1<;>cases c2<;>first|exact hl|(show m1.length≤_;omega)|(show U.length≤_;omega)
 have i:=pu m g.2.2 R;rw [EX.row_eq] at i;refine AK.cutK (fun _:Unit=>True) (fun _=>au [(0,.np 2000000 0),(2,.str (toB g.2.2)),(6,.ptr 6 0),(9,.ptr 9 0)]) (fun _=>⟨ag [(6,ndZ 0 ⟨#[]⟩ ⟨#[]⟩,false),(9,ndZ 4 (toB g.1) (toB g.2.1),false),(2000000,mnC m,false)],fun _=>0⟩) ?_ fun _ _=> ?_
 ·clear i R
  refine kC (fun hb=> ?_) fun hb=> ?_
  ·have hd:(b&&([44]:Bs).isPrefixOf rest)=true:=hb
   clear hb;rw [if_pos hd] at hg
   have hrl:1≤rest.length:=by
    cases rest with
    |nil=>simp at hd
    |cons _ _=>simp
   have p:=DT (rest.drop 1) (by rw [gA6];omega);generalize iO (rest.drop 1)=T at hg p;obtain ⟨n2,U,c2⟩:=T;dsimp only at hg p;refine kW ?_;refine kP [.v (.tup [.str (toB n2),.str (toB U),.bool c2])] ?_ ?_
   ·((repeat' apply aI)<;>first|exact kD|(intro hgd;refine ⟨?_,kG⟩;(repeat' apply aI)<;>first|exact kD|skip)|skip)
    all_goals first|(rw [ab];omega)|(rw [show ((1:Int)).toNat=((1:Nat):Int).toNat from rfl,bc];exact p)
   refine kW ?_;cases c2 with
   |true=>
    subst hg;refine kCt ?_;refine kW ?_;exact cE ⟨(),trivial,wN ⟨kI,kI,kI,kI,trivial⟩ ⟨kJ,kJ,kJ,trivial⟩ rfl rfl ⟨rfl,trivial⟩⟩
   |false=>
    subst hg;refine kCf ?_;refine kW ?_;exact cE ⟨(),trivial,wN ⟨kI,kI,kI,kI,trivial⟩ ⟨kJ,kJ,kJ,trivial⟩ rfl rfl ⟨rfl,trivial⟩⟩
  ·have hd: ¬(b&&([44]:Bs).isPrefixOf rest)=true:=by
    intro h;rw [show (b&&([44]:Bs).isPrefixOf rest)=false from hb] at h;cases h
   clear hb;rw [if_neg hd] at hg;generalize iO s=T at hg J;obtain ⟨n2,U,c2⟩:=T;dsimp only at hg J;refine kW ?_;refine kQ [.v (.tup [.str (toB n2),.str (toB U),.bool c2])] ?_;refine kW ?_;cases c2 with
   |true=>
    subst hg;refine kCt ?_;refine kW ?_;exact cE ⟨(),trivial,wN ⟨kI,kI,kI,kI,trivial⟩ ⟨kJ,kJ,kJ,trivial⟩ rfl rfl ⟨rfl,trivial⟩⟩
   |false=>
    subst hg;refine kCf ?_;refine kW ?_;exact cE ⟨(),trivial,wN ⟨kI,kI,kI,kI,trivial⟩ ⟨kJ,kJ,kJ,trivial⟩ rfl rfl ⟨rfl,trivial⟩⟩
 generalize m.pipe g.2.2=q at i⊢;refine kW ?_;refine kQ [.s [2000000] (mnS q.2) (.agg (exV q.1))] ?_;refine kW ?_;exact aR ⟨⟨_,rfl,rfl⟩,⟨_,rfl,rfl⟩,trivial⟩
end
end Go.Proofs.YtbgflifmanjpjaaGreatDoor
