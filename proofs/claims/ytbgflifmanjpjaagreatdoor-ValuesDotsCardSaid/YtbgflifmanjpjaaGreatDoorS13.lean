/- Part 13. -/
import Derived.Test.YtbgflifmanjpjaaGreatDoorS12
import Derived.Lib.Strings
import Derived.BigQuiet
set_option linter.unusedSimpArgs false
set_option linter.unusedVariables false
namespace Go.Proofs.YtbgflifmanjpjaaGreatDoor
open Go.RowKit
theorem sz0 (s:ByteArray):s=ByteArray.empty↔s.size=0:=by
 refine ⟨fun h=>by subst h;rfl,fun h=> ?_⟩;cases s with
 |mk a=>
  have:a= #[]:=Array.eq_empty_of_size_eq_zero h;subst this;rfl
theorem oZ {σ:Sg} {vs:List Value} {a b:AV} (hr:RelPs σ vs [a,b]): ∃x y,vs= [x,y]∧RelP σ x a∧RelP σ y b:=by
 have hl:vs.length=2:=hr.1
 obtain ⟨v1,v2,rfl⟩: ∃a b,vs= [a,b]:=by
  rcases vs with _|⟨a,_|⟨b,_|⟨d,l⟩⟩⟩<;>simp at hl
  exact ⟨a,b,rfl⟩
 exact ⟨v1,v2,rfl,hr.2 0 v1 _ rfl rfl,hr.2 1 v2 _ rfl rfl⟩
theorem uO (l:List UInt8) (c:UInt8):(Lib.indexByte l c= -1∧c∉l)∨ ∃i:Nat,Lib.indexByte l c=i∧i<l.length∧l[i]? =some c∧c∉l.take i:=by
 induction l with
 |nil=>exact .inl ⟨rfl,by simp⟩
 |cons b l ih=>
  rw [Lib.indexByte];by_cases h:b=c
  ·subst h
   exact .inr ⟨0,by simp,by simp,rfl,by simp⟩
  ·rw [if_neg (by simpa using h)]
   rcases ih with ⟨g,j⟩|⟨i,g,j,p,r⟩
   ·exact .inl ⟨by rw [g];rfl,by simp [j,Ne.symm h]⟩
   ·refine .inr ⟨i+1,?_,by simp;omega,by simpa using p,by simp [r,Ne.symm h]⟩
    rw [g,if_neg (by simp)];simp
def V.str (s:ByteArray):V:= .mk 3 false 0 s [] []
def V.int (n:Int):V:= .mk 2 false n ⟨#[]⟩ [] []
theorem ec (s:ByteArray):AC Tryz.prog 45 [.str s] ((vA ((V.str s)))):=by
 refine kE Tryz.func45 wk wl fun E g=> ?_
 refine kW ?_;refine aR ⟨_,rfl,?_⟩;rfl
theorem xL (n:Int):AC Tryz.prog 37 [.int .i64 n] ((vA ((V.int n)))):=by
 refine kE Tryz.func37 wz wA fun E g=> ?_
 refine kW ?_;refine aR ⟨_,rfl,?_⟩;rfl
theorem KT (neg:Bool):tH Tryz.prog neg 216 .nilIface .nilIface true:=by
 intro w x y g
 have hg:(eqGuard (lw neg) 216 x y .nilIface .nilIface).run Tryz.prog w= .ok () w:=by
  cases x<;>cases y<;>first|(cases g;done)|(cases neg<;>simp [go_sem,eqGuard,lw])
 cases neg
 ·exact ⟨hg,by simp [go_sem,lw]⟩
 ·exact ⟨hg,by simp [go_sem,lw]⟩
end Go.Proofs.YtbgflifmanjpjaaGreatDoor
namespace Go.Proofs.YtbgflifmanjpjaaGreatDoor
set_option maxRecDepth 100000
def za:ACode:=
 .seq (gQ [⟨gO,.mov 2 (.k (.bool false))⟩]) (.seq (.seq (gQ [gJ 3 0]) (.block 0 (.loop (.seq (.seq (gQ [gM 4 3,gM 5 0,gH 6 true 5,gV 7 .lss 4 6]) (.cond (.s 7) .skip (.exit 0))) (.seq (.block 1 (.seq (gQ [gM 10 0,gM 11 3,⟨gO,.bidx 12 (.s 10) (.s 11)⟩,⟨gO,gB 13 .lss (.s 12) (.k (.int .u8 32))⟩,gM 14 13,gN 14 false 15 0,gN 14 false 16 3,⟨some (14,false),.bidx 17 (.s 15) (.s 16)⟩,⟨some (14,false),.bin 18 .gtr false (.s 17) (.k (.int .u8 126))⟩,⟨gO,.pick 19 (.s 14) (.k (.bool true)) (.s 18)⟩,gM 20 19,gN 20 true 21 0,gN 20 true 22 3,⟨some (20,true),.bidx 23 (.s 21) (.s 22)⟩,⟨some (20,true),.bin 24 .neq false (.s 23) (.k (.int .u8 9))⟩,⟨gO,.pick 25 (.s 20) (.s 24) (.k (.bool false))⟩,gM 26 25,gN 26 true 27 0,gN 26 true 28 3,⟨some (26,true),.bidx 29 (.s 27) (.s 28)⟩,⟨some (26,true),.bin 30 .neq false (.s 29) (.k (.int .u8 10))⟩,⟨gO,.pick 31 (.s 26) (.s 30) (.k (.bool false))⟩]) (.cond (.s 31) (.seq (gQ [⟨gO,.mov 2 (.k (.bool false))⟩]) .ret) .skip))) (.reg [gM 8 3,gU 9 .add 8 1,gM 3 9])))))) (.seq (gQ [gM 32 0,gH 33 true 32,gU 34 .leq 33 65536,gM 2 34]) .ret))
def zb:AFn:=⟨1,35,za,[.tmp 2]⟩
theorem sC:ax Tryz.prog [] Tryz.f118=some zb:=kk
theorem sD:aa Tryz.prog 118=true:=kk
def zc:ACode:=
 .seq (gQ [gP 2 0,gP 3 1,⟨gO,.mov 4 (.k (.bool false))⟩]) (.seq (.seq (gQ [gF 7 0 2,gL 8 7,gF 9 0 3,gL 10 9,gV 11 .neq 8 10,gM 12 11,⟨some (12,false),.off 13 1 (.s 2)⟩,⟨some (12,false),.ld 14 1 false (.s 13)⟩,⟨some (12,false),.off 15 1 (.s 3)⟩,⟨some (12,false),.ld 16 1 false (.s 15)⟩,⟨some (12,false),.bin 17 .neq true (.s 14) (.s 16)⟩,⟨gO,.pick 18 (.s 12) (.k (.bool true)) (.s 17)⟩,gM 19 18,⟨some (19,false),.off 20 2 (.s 2)⟩,⟨some (19,false),.ld 21 1 false (.s 20)⟩,⟨some (19,false),.off 22 2 (.s 3)⟩,⟨some (19,false),.ld 23 1 false (.s 22)⟩,⟨some (19,false),.bin 24 .neq false (.s 21) (.s 23)⟩,⟨gO,.pick 25 (.s 19) (.k (.bool true)) (.s 24)⟩,gM 26 25,⟨some (26,false),.off 27 3 (.s 2)⟩,⟨some (26,false),.ld 28 1 false (.s 27)⟩,⟨some (26,false),.off 29 3 (.s 3)⟩,⟨some (26,false),.ld 30 1 false (.s 29)⟩,⟨some (26,false),.bin 31 .neq false (.s 28) (.s 30)⟩,⟨gO,.pick 32 (.s 26) (.k (.bool true)) (.s 31)⟩,gM 33 32,⟨some (33,false),.off 34 4 (.s 2)⟩,⟨some (33,false),.ld 35 1 false (.s 34)⟩,⟨some (33,false),.len 36 false (.s 35)⟩,⟨some (33,false),.off 37 4 (.s 3)⟩,⟨some (33,false),.ld 38 1 false (.s 37)⟩,⟨some (33,false),.len 39 false (.s 38)⟩,⟨some (33,false),.bin 40 .neq false (.s 36) (.s 39)⟩,⟨gO,.pick 41 (.s 33) (.k (.bool true)) (.s 40)⟩,gM 42 41,⟨some (42,false),.off 43 5 (.s 2)⟩,⟨some (42,false),.ld 44 1 false (.s 43)⟩,⟨some (42,false),.len 45 false (.s 44)⟩,⟨some (42,false),.off 46 5 (.s 3)⟩,⟨some (42,false),.ld 47 1 false (.s 46)⟩,⟨some (42,false),.len 48 false (.s 47)⟩,⟨some (42,false),.bin 49 .neq false (.s 45) (.s 48)⟩,⟨gO,.pick 50 (.s 42) (.k (.bool true)) (.s 49)⟩]) (.cond (.s 50) (.seq (gQ [⟨gO,.mov 4 (.k (.bool false))⟩]) .ret) .skip)) (.seq (.seq (gQ [gJ 5 0]) (.block 0 (.loop (.seq (.seq (gQ [gM 51 5,gF 52 4 2,gL 53 52,gH 54 false 53,gV 55 .lss 51 54]) (.cond (.s 55) .skip (.exit 0))) (.seq (.block 1 (.seq (gQ [gF 58 4 2,gL 59 58,gM 60 5,gE 61 6 59 60,gA 62 6 61,gF 63 4 3,gL 64 63,gM 65 5,gE 66 6 64 65,gA 67 6 66,gC 68 14 [.s 62,.s 67],⟨gO,.un 69 .not (.s 68)⟩]) (.cond (.s 69) (.seq (gQ [⟨gO,.mov 4 (.k (.bool false))⟩]) .ret) .skip))) (.reg [gM 56 5,gU 57 .add 56 1,gM 5 57])))))) (.seq (.seq (gQ [gJ 6 0]) (.block 2 (.loop (.seq (.seq (gQ [gM 70 6,gF 71 5 2,gL 72 71,gH 73 false 72,gV 74 .lss 70 73]) (.cond (.s 74) .skip (.exit 2))) (.seq (.block 3 (.seq (gQ [gF 77 5 2,gL 78 77,gM 79 6,gE 80 7 78 79,gF 81 0 80,gL 82 81,gF 83 5 3,gL 84 83,gM 85 6,gE 86 7 84 85,gF 87 0 86,gL 88 87,gV 89 .neq 82 88,gM 90 89,⟨some (90,false),.off 91 5 (.s 2)⟩,⟨some (90,false),.ld 92 1 false (.s 91)⟩,gN 90 false 93 6,⟨some (90,false),.idx 94 7 (.s 92) (.s 93)⟩,⟨some (90,false),.off 95 1 (.s 94)⟩,⟨some (90,false),.ld 96 6 true (.s 95)⟩,⟨some (90,false),.off 97 5 (.s 3)⟩,⟨some (90,false),.ld 98 1 false (.s 97)⟩,gN 90 false 99 6,⟨some (90,false),.idx 100 7 (.s 98) (.s 99)⟩,⟨some (90,false),.off 101 1 (.s 100)⟩,⟨some (90,false),.ld 102 6 true (.s 101)⟩,⟨some (90,false),.call (some 103) (.k (.fn 14 [])) [.s 96,.s 102]⟩,⟨some (90,false),.un 104 .not (.s 103)⟩,⟨gO,.pick 105 (.s 90) (.k (.bool true)) (.s 104)⟩]) (.cond (.s 105) (.seq (gQ [⟨gO,.mov 4 (.k (.bool false))⟩]) .ret) .skip))) (.reg [gM 75 6,gU 76 .add 75 1,gM 6 76])))))) (.seq (gQ [⟨gO,.mov 4 (.k (.bool true))⟩]) .ret))))
def zd:AFn:=⟨2,106,zc,[.tmp 4]⟩
theorem sE:ax Tryz.prog [] Tryz.f14=some zd:=kk
theorem sF:aa Tryz.prog 14=true:=kk
def ze:ACode:=
 .seq (gQ [gP 1 0,gJ 2 0]) (.seq (gQ [gJ 3 1]) (.seq (.seq (gQ [gJ 4 0]) (.block 0 (.loop (.seq (.seq (gQ [gM 6 4,gF 7 4 1,gL 8 7,gH 9 false 8,gV 10 .lss 6 9]) (.cond (.s 10) .skip (.exit 0))) (.seq (.block 1 (.reg [gM 13 3,gF 14 4 1,gL 15 14,gM 16 4,gE 17 6 15 16,gA 18 6 17,gC 19 69 [.s 18],gV 20 .add 13 19,gM 3 20])) (.reg [gM 11 4,gU 12 .add 11 1,gM 4 12])))))) (.seq (.seq (gQ [gJ 5 0]) (.block 2 (.loop (.seq (.seq (gQ [gM 21 5,gF 22 5 1,gL 23 22,gH 24 false 23,gV 25 .lss 21 24]) (.cond (.s 25) .skip (.exit 2))) (.seq (.block 3 (.reg [gM 28 3,gF 29 5 1,gL 30 29,gM 31 5,gE 32 7 30 31,gF 33 1 32,gA 34 6 33,gC 35 69 [.s 34],gV 36 .add 28 35,gM 3 36])) (.reg [gM 26 5,gU 27 .add 26 1,gM 5 27])))))) (.seq (gQ [gM 37 3,gM 2 37]) .ret))))
def zf:AFn:=⟨1,38,ze,[.tmp 2]⟩
theorem sG:ax Tryz.prog [] Tryz.f69=some zf:=kk
theorem sH:aa Tryz.prog 69=true:=kk
def wC:ACode:=
 .seq (gQ [gP 1 0,gJ 2 0]) (.seq (gQ [gJ 3 0]) (.seq (.seq (gQ [gJ 4 0]) (.block 0 (.loop (.seq (.seq (gQ [gM 8 4,gF 9 4 1,gL 10 9,gH 11 false 10,gV 12 .lss 8 11]) (.cond (.s 12) .skip (.exit 0))) (.seq (.block 1 (.seq (gQ [gF 15 4 1,gL 16 15,gM 17 4,gE 18 6 16 17,gA 19 6 18,gC 20 68 [.s 19],gM 5 20]) (.seq (gQ [gM 21 5,gM 22 3,gV 23 .gtr 21 22]) (.cond (.s 23) (.reg [gM 24 5,gM 3 24]) .skip)))) (.reg [gM 13 4,gU 14 .add 13 1,gM 4 14])))))) (.seq (.seq (gQ [gJ 6 0]) (.block 2 (.loop (.seq (.seq (gQ [gM 25 6,gF 26 5 1,gL 27 26,gH 28 false 27,gV 29 .lss 25 28]) (.cond (.s 29) .skip (.exit 2))) (.seq (.block 3 (.seq (gQ [gF 32 5 1,gL 33 32,gM 34 6,gE 35 7 33 34,gF 36 1 35,gA 37 6 36,gC 38 68 [.s 37],gM 7 38]) (.seq (gQ [gM 39 7,gM 40 3,gV 41 .gtr 39 40]) (.cond (.s 41) (.reg [gM 42 7,gM 3 42]) .skip)))) (.reg [gM 30 6,gU 31 .add 30 1,gM 6 31])))))) (.seq (gQ [gM 43 3,gU 44 .add 43 1,gM 2 44]) .ret))))
def wD:AFn:=⟨1,45,wC,[.tmp 2]⟩
theorem qg:ax Tryz.prog [] Tryz.f68=some wD:=kk
theorem qh:aa Tryz.prog 68=true:=kk
def AW:ACode:=
 .seq (gQ [⟨gO,.mov 2 (.k (.bool false))⟩]) (.seq (.seq (gQ [gJ 3 0]) (.block 0 (.loop (.seq (.seq (gQ [gM 4 3,gM 5 0,gH 6 true 5,gV 7 .lss 4 6]) (.cond (.s 7) .skip (.exit 0))) (.seq (.block 1 (.seq (gQ [gM 10 0,gM 11 3,⟨gO,.bidx 12 (.s 10) (.s 11)⟩,⟨gO,gB 13 .lss (.s 12) (.k (.int .u8 32))⟩,gM 14 13,gN 14 false 15 0,gN 14 false 16 3,⟨some (14,false),.bidx 17 (.s 15) (.s 16)⟩,⟨some (14,false),.bin 18 .gtr false (.s 17) (.k (.int .u8 126))⟩,⟨gO,.pick 19 (.s 14) (.k (.bool true)) (.s 18)⟩]) (.cond (.s 19) (.seq (gQ [⟨gO,.mov 2 (.k (.bool false))⟩]) .ret) .skip))) (.reg [gM 8 3,gU 9 .add 8 1,gM 3 9])))))) (.seq (gQ [gM 20 0,gH 21 true 20,gU 22 .geq 21 1,gM 23 22,gN 23 true 24 0,⟨some (23,true),.len 25 true (.s 24)⟩,⟨some (23,true),.bin 26 .leq false (.s 25) (gI 256)⟩,⟨gO,.pick 27 (.s 23) (.s 26) (.k (.bool false))⟩,gM 2 27]) .ret))
def AX:AFn:=⟨1,28,AW,[.tmp 2]⟩
theorem uP:ax Tryz.prog [] Tryz.f119=some AX:=kk
theorem uQ:aa Tryz.prog 119=true:=kk
def wE:ACode:=
 .seq (gQ [gP 1 0,gJ 2 0]) (.seq (.seq (gQ [gF 7 0 1,gL 8 7,gU 9 .lss 8 0,gM 10 9,⟨some (10,false),.off 11 0 (.s 1)⟩,⟨some (10,false),.ld 12 1 false (.s 11)⟩,⟨some (10,false),.bin 13 .gtr false (.s 12) (gI 5)⟩,⟨gO,.pick 14 (.s 10) (.k (.bool true)) (.s 13)⟩,gM 15 14,⟨some (15,false),.off 16 0 (.s 1)⟩,⟨some (15,false),.ld 17 1 false (.s 16)⟩,⟨some (15,false),.bin 18 .neq false (.s 17) (gI 1)⟩,gN 15 false 19 18,⟨some (19,true),.off 20 1 (.s 1)⟩,⟨some (19,true),.ld 21 1 false (.s 20)⟩,⟨some (15,false),.pick 22 (.s 19) (.s 21) (.k (.bool false))⟩,⟨gO,.pick 23 (.s 15) (.k (.bool true)) (.s 22)⟩,gM 24 23,⟨some (24,false),.off 25 0 (.s 1)⟩,⟨some (24,false),.ld 26 1 false (.s 25)⟩,⟨some (24,false),.bin 27 .neq false (.s 26) (gI 2)⟩,gN 24 false 28 27,⟨some (28,true),.off 29 2 (.s 1)⟩,⟨some (28,true),.ld 30 1 false (.s 29)⟩,⟨some (28,true),.bin 31 .neq false (.s 30) (gI 0)⟩,⟨some (24,false),.pick 32 (.s 28) (.s 31) (.k (.bool false))⟩,⟨gO,.pick 33 (.s 24) (.k (.bool true)) (.s 32)⟩,gM 34 33,⟨some (34,false),.off 35 0 (.s 1)⟩,⟨some (34,false),.ld 36 1 false (.s 35)⟩,⟨some (34,false),.bin 37 .neq false (.s 36) (gI 3)⟩,gN 34 false 38 37,⟨some (38,true),.off 39 3 (.s 1)⟩,⟨some (38,true),.ld 40 1 false (.s 39)⟩,⟨some (38,true),.bin 41 .neq false (.s 40) (gS ⟨#[]⟩)⟩,⟨some (34,false),.pick 42 (.s 38) (.s 41) (.k (.bool false))⟩,⟨gO,.pick 43 (.s 34) (.k (.bool true)) (.s 42)⟩,gM 44 43,⟨some (44,false),.off 45 0 (.s 1)⟩,⟨some (44,false),.ld 46 1 false (.s 45)⟩,⟨some (44,false),.bin 47 .neq false (.s 46) (gI 4)⟩,gN 44 false 48 47,⟨some (48,true),.off 49 4 (.s 1)⟩,⟨some (48,true),.ld 50 1 false (.s 49)⟩,⟨some (48,true),.len 51 false (.s 50)⟩,⟨some (48,true),.bin 52 .gtr false (.s 51) (gI 0)⟩,⟨some (44,false),.pick 53 (.s 48) (.s 52) (.k (.bool false))⟩,⟨gO,.pick 54 (.s 44) (.k (.bool true)) (.s 53)⟩,gM 55 54,⟨some (55,false),.off 56 0 (.s 1)⟩,⟨some (55,false),.ld 57 1 false (.s 56)⟩,⟨some (55,false),.bin 58 .neq false (.s 57) (gI 5)⟩,gN 55 false 59 58,⟨some (59,true),.off 60 5 (.s 1)⟩,⟨some (59,true),.ld 61 1 false (.s 60)⟩,⟨some (59,true),.len 62 false (.s 61)⟩,⟨some (59,true),.bin 63 .gtr false (.s 62) (gI 0)⟩,⟨some (55,false),.pick 64 (.s 59) (.s 63) (.k (.bool false))⟩,⟨gO,.pick 65 (.s 55) (.k (.bool true)) (.s 64)⟩]) (.cond (.s 65) (.seq (gQ [gJ 2 8]) .ret) .skip)) (.seq (.seq (gQ [gF 66 3 1,gL 67 66,gC 68 118 [.s 67],⟨gO,.un 69 .not (.s 68)⟩]) (.cond (.s 69) (.seq (gQ [gJ 2 10]) .ret) .skip)) (.seq (.seq (gQ [gJ 3 0]) (.block 0 (.loop (.seq (.seq (gQ [gM 70 3,gF 71 4 1,gL 72 71,gH 73 false 72,gV 74 .lss 70 73]) (.cond (.s 74) .skip (.exit 0))) (.seq (.block 1 (.seq (gQ [gF 77 4 1,gL 78 77,gM 79 3,gE 80 6 78 79,gA 81 6 80,gC 82 70 [.s 81],gM 4 82]) (.seq (gQ [gM 83 4,gU 84 .neq 83 0]) (.cond (.s 84) (.seq (gQ [gM 85 4,gM 2 85]) .ret) .skip)))) (.reg [gM 75 3,gU 76 .add 75 1,gM 3 76])))))) (.seq (.seq (gQ [gJ 5 0]) (.block 2 (.loop (.seq (.seq (gQ [gM 86 5,gF 87 5 1,gL 88 87,gH 89 false 88,gV 90 .lss 86 89]) (.cond (.s 90) .skip (.exit 2))) (.seq (.block 3 (.seq (.seq (gQ [gF 93 5 1,gL 94 93,gM 95 5,gE 96 7 94 95,gF 97 0 96,gL 98 97,gC 99 119 [.s 98],⟨gO,.un 100 .not (.s 99)⟩]) (.cond (.s 100) (.seq (gQ [gJ 2 7]) .ret) .skip)) (.seq (.seq (gQ [gM 101 5,gU 102 .gtr 101 0,gM 103 102,⟨some (103,true),.off 104 5 (.s 1)⟩,⟨some (103,true),.ld 105 1 false (.s 104)⟩,gN 103 true 106 5,⟨some (103,true),.idx 107 7 (.s 105) (.s 106)⟩,⟨some (103,true),.off 108 0 (.s 107)⟩,⟨some (103,true),.ld 109 1 false (.s 108)⟩,⟨some (103,true),.off 110 5 (.s 1)⟩,⟨some (103,true),.ld 111 1 false (.s 110)⟩,gN 103 true 112 5,⟨some (103,true),.bin 113 .sub false (.s 112) (gI 1)⟩,⟨some (103,true),.idx 114 7 (.s 111) (.s 113)⟩,⟨some (103,true),.off 115 0 (.s 114)⟩,⟨some (103,true),.ld 116 1 false (.s 115)⟩,⟨some (103,true),.bin 117 .leq false (.s 109) (.s 116)⟩,⟨gO,.pick 118 (.s 103) (.s 117) (.k (.bool false))⟩]) (.cond (.s 118) (.seq (gQ [gJ 2 13]) .ret) .skip)) (.seq (gQ [gF 119 5 1,gL 120 119,gM 121 5,gE 122 7 120 121,gF 123 1 122,gA 124 6 123,gC 125 70 [.s 124],gM 6 125]) (.seq (gQ [gM 126 6,gU 127 .neq 126 0]) (.cond (.s 127) (.seq (gQ [gM 128 6,gM 2 128]) .ret) .skip)))))) (.reg [gM 91 5,gU 92 .add 91 1,gM 5 92])))))) (.seq (gQ [gJ 2 0]) .ret)))))
def wF:AFn:=⟨1,129,wE,[.tmp 2]⟩
theorem qi:ax Tryz.prog [] Tryz.f70=some wF:=kk
theorem qj:aa Tryz.prog 70=true:=kk
def wG:ACode:=
 .seq (gQ [gP 1 0,gJ 2 0]) (.seq (.seq (gQ [gA 3 6 1,gC 4 68 [.s 3],gU 5 .gtr 4 16]) (.cond (.s 5) (.seq (gQ [gJ 2 5]) .ret) .skip)) (.seq (.seq (gQ [gA 6 6 1,gC 7 69 [.s 6],gU 8 .gtr 7 4096]) (.cond (.s 8) (.seq (gQ [gJ 2 6]) .ret) .skip)) (.seq (gQ [gA 9 6 1,gC 10 70 [.s 9],gM 2 10]) .ret)))
def wH:AFn:=⟨1,11,wG,[.tmp 2]⟩
theorem qk:ax Tryz.prog [] Tryz.f34=some wH:=kk
theorem ql:aa Tryz.prog 34=true:=kk
def uR:ACode:=
 .seq (gQ [gP 2 0,gJ 4 0]) (.seq (gQ [gF 10 3 2,gL 11 10,gH 12 true 11,⟨gO,gB 13 .add (gI 1) (.s 12)⟩,gM 5 13]) (.seq (.seq (gQ [gM 14 1,gU 15 .gtr 14 40]) (.cond (.s 15) (.seq (gQ [gJ 4 1048576]) .ret) .skip)) (.seq (.seq (gQ [gF 16 4 2,gL 17 16,gH 18 false 17,gJ 19 0]) (.block 0 (.loop (.seq (gQ [gV 20 .lss 19 18]) (.seq (.cond (.s 20) .skip (.exit 0)) (.seq (.block 1 (.seq (gQ [gE 21 6 17 19,gA 22 6 21,⟨gO,.alloc 7 gZ⟩,gT 6 7 22]) (.seq (gQ [gM 23 5,gA 24 6 7,gM 25 1,gU 26 .add 25 1,gC 27 67 [.s 24,.s 26],gV 28 .add 23 27,gM 5 28]) (.seq (gQ [gM 29 5,gU 30 .gtr 29 6000]) (.cond (.s 30) (.seq (gQ [gM 31 5,gM 4 31]) .ret) .skip))))) (.reg [gU 32 .add 19 1,gM 19 32]))))))) (.seq (.seq (gQ [gF 33 5 2,gL 34 33,gH 35 false 34,gJ 36 0]) (.block 2 (.loop (.seq (gQ [gV 37 .lss 36 35]) (.seq (.cond (.s 37) .skip (.exit 2)) (.seq (.block 3 (.seq (gQ [gE 38 7 34 36,gA 39 7 38,⟨gO,.alloc 9 [.str ⟨#[]⟩,.int .i64 0,.bool false,.int .i64 0,.str ⟨#[]⟩,.lst .nil 6 [],.lst .nil 7 []]⟩,gT 7 9 39]) (.seq (gQ [gM 40 5,gF 41 1 9,gA 42 6 41,gM 43 1,gU 44 .add 43 1,gC 45 67 [.s 42,.s 44],gF 46 0 9,gL 47 46,gH 48 true 47,gV 49 .add 45 48,gV 50 .add 40 49,gM 5 50]) (.seq (gQ [gM 51 5,gU 52 .gtr 51 6000]) (.cond (.s 52) (.seq (gQ [gM 53 5,gM 4 53]) .ret) .skip))))) (.reg [gU 54 .add 36 1,gM 36 54]))))))) (.seq (gQ [gM 55 5,gM 4 55]) .ret)))))
def uS:AFn:=⟨2,56,uR,[.tmp 4]⟩
theorem o0:ax Tryz.prog [] Tryz.f67=some uS:=kk
theorem o4:aa Tryz.prog 67=true:=kk
def wI:ACode:=
 .seq (gQ [gP 1 0,⟨gO,.mov 2 (.k (.bool false))⟩]) (.seq (gQ [gA 3 6 1,gC 4 67 [.s 3,gI 0],gU 5 .leq 4 6000,gM 2 5]) .ret)
def wJ:AFn:=⟨1,6,wI,[.tmp 2]⟩
theorem qm:ax Tryz.prog [] Tryz.f33=some wJ:=kk
theorem qo:aa Tryz.prog 33=true:=kk
def wK:ACode:=
 .seq (gQ [⟨gO,.mov 2 (.k (.bool false))⟩]) (.seq (.seq (gQ [gM 5 0,gH 6 false 5,gJ 7 0]) (.block 0 (.loop (.seq (gQ [gV 8 .lss 7 6]) (.seq (.cond (.s 8) .skip (.exit 0)) (.seq (.block 1 (.seq (gQ [gE 9 6 5 7,gA 10 6 9,⟨gO,.alloc 4 gZ⟩,gT 6 4 10]) (.seq (gQ [gA 11 6 4,gC 12 33 [.s 11],⟨gO,.un 13 .not (.s 12)⟩,gM 14 13,⟨some (14,false),.ld 15 6 true (.s 4)⟩,⟨some (14,false),.call (some 16) (.k (.fn 34 [])) [.s 15]⟩,⟨some (14,false),.bin 17 .neq false (.s 16) (gI 0)⟩,⟨gO,.pick 18 (.s 14) (.k (.bool true)) (.s 17)⟩]) (.cond (.s 18) (.seq (gQ [⟨gO,.mov 2 (.k (.bool false))⟩]) .ret) .skip)))) (.reg [gU 19 .add 7 1,gM 7 19]))))))) (.seq (gQ [⟨gO,.mov 2 (.k (.bool true))⟩]) .ret))
def wNz:AFn:=⟨1,20,wK,[.tmp 2]⟩
theorem qp:ax Tryz.prog [] Tryz.f8=some wNz:=kk
theorem qr:aa Tryz.prog 8=true:=kk
end Go.Proofs.YtbgflifmanjpjaaGreatDoor
namespace Go.Proofs.YtbgflifmanjpjaaGreatDoor
open Go.RowKit
theorem E8 (s:ByteArray) (p:s.size≤140737488355328):AC Tryz.prog 118 [.str s] (.bool (dt s)):=by
 refine kE Tryz.func118 sC sD fun E r=> ?_
 refine kW ?_;refine aJ (fun k:Nat=>(au [(0,.str s),(3,.int .i64 k)],⟨ag [],fun _=>0⟩)) (fun k=>k≤s.size∧oK okT s k) (fun k=>s.size-k) 0 ⟨by omega,gi _ _⟩ (wO ⟨kI,kI,trivial⟩ trivial rfl rfl) fun k ⟨C,i⟩=> ?_
 refine kW ?_;refine kC (fun hb=> ?_) fun hb=> ?_
 ·have g:k<s.size:=by simpa using hb
  refine kW ?_;refine kQ [] ?_;rw [show s.data.getD (k:Int).toNat 0=s[k] from jM g];refine kC (fun hb=> ?_) fun hb=> ?_
  ·refine kW ?_
   refine aR ⟨_,rfl,?_⟩
   have j:okT s[k]=false:=by
    simp only [Bool.or_eq_true,gA9,Bool.not_eq_true',gB0,decide_eq_false_iff_not] at hb;simp only [okT,Bool.or_eq_false_iff,Bool.and_eq_false_iff,decide_eq_false_iff_not,beq_eq_false_iff_ne,ne_eq];omega
   rw [dt,gk g j];rfl
  ·have ht:okT s[k]=true:=by
    simp only [Bool.or_eq_false_iff,Bool.and_eq_false_iff,Bool.not_eq_false',gB0,decide_eq_false_iff_not] at hb;simp only [okT,Bool.or_eq_true,gA9,gB0,beq_iff_eq];omega
   refine kW ?_;exact AK.lp ⟨k+1,⟨by omega,gj i g ht⟩,wO ⟨kI,kU,trivial⟩ trivial rfl rfl,by omega⟩
 ·have g:k=s.size:=by have:s.size≤k:=by simpa using hb
                      omega
  subst g;refine AK.exit rfl ?_;refine kW ?_;refine aR ⟨_,rfl,?_⟩;show AV.bool _=AV.bool _;refine congrArg AV.bool ?_;rw [dt,i7 i,Bool.eq_iff_iff];simp
  try omega
end Go.Proofs.YtbgflifmanjpjaaGreatDoor
namespace Go.Proofs
open Go.Shelf Go.RowKit
def Tryz.layh167_ren:Go.Shelf.Ren:=⟨fun|167=>230|240=>228|276=>255|n=>n,fun|37=>118|70=>117|72=>120|75=>216|80=>127|164=>278|n=>n,fun|n=>n⟩
theorem Tryz.layh167:Go.Proofs.Lays.n167 Tryz.prog Tryz.layh167_ren:=⟨by kernel_rfl,Tryz.func230.trans (congrArg some (by kernel_rfl)),Tryz.func228.trans (congrArg some (by kernel_rfl)),Tryz.func255.trans (congrArg some (by kernel_rfl)),Tryz.underlying0,Tryz.isAgg0,Tryz.sizeOf0,Tryz.zeroValue0,Tryz.underlying4,Tryz.isAgg4,Tryz.sizeOf4,Tryz.zeroValue4,Tryz.underlying5,Tryz.isAgg5,Tryz.sizeOf5,Tryz.zeroValue5,Tryz.underlying9,Tryz.isAgg9,Tryz.sizeOf9,Tryz.zeroValue9,Tryz.underlying20,Tryz.isAgg20,Tryz.sizeOf20,Tryz.zeroValue20,Tryz.underlying118,Tryz.isAgg118,Tryz.sizeOf118,Tryz.zeroValue118,Tryz.underlying117,Tryz.isAgg117,Tryz.sizeOf117,Tryz.zeroValue117,Tryz.underlying120,Tryz.isAgg120,Tryz.sizeOf120,Tryz.zeroValue120,Tryz.underlying216,Tryz.isAgg216,Tryz.sizeOf216,Tryz.zeroValue216,Tryz.underlying278,Tryz.isAgg278,Tryz.sizeOf278,Tryz.zeroValue278⟩
theorem Tryz.Builder_Extra_h:Builder.Extra Tryz.prog Tryz.layh167_ren:={
 sizeBuilder:=by kernel_rfl
 liesBuilder:=by kernel_rfl
 t5:=Tryz.underlying5
 a5:=Tryz.isAgg5
 z5:=Tryz.sizeOf5
 v5:=Tryz.zeroValue5
 infoByte:=by kernel_rfl
 cellsByte:=by kernel_rfl
 sizeByte:=by kernel_rfl
 neB5:=by decide}
theorem Tryz.writeByte_h (B b:Nat) (g:List Value) (c:Int) (w:World) (h:Lib.IsBuilder 120 5 B b g w) (hlen:g.length+1≤140737488355328) (i:B≤w.heap.size):
  Calls Tryz.prog 230 #[.pointer (some ⟨b,0,none⟩),.int .u8 c] w fun e w' =>e= .returned .nilIface∧(Lib.BuilderAt 120 5 B b (.pointer (some ⟨b,0,none⟩)) (g++ [.int .u8 c]) w' ∧Below B w w'):=Any.Builder_WriteByte Tryz.layh167 Tryz.Builder_Extra_h B b g c w h hlen i
end Go.Proofs
