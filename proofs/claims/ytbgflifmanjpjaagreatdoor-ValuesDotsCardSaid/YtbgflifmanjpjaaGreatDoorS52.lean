/- Part 52. -/
import Derived.Test.YtbgflifmanjpjaaGreatDoorS51
set_option linter.unusedSimpArgs false
set_option linter.unusedVariables false
namespace Go.Proofs.YtbgflifmanjpjaaGreatDoor
section
set_option maxRecDepth 100000
def cD:ACode:=
 .seq (gQ [gP 4 1,⟨gO,.mov 6 (.k (.bool false))⟩]) (.seq (.seq (gQ [gM 21 0,gC 22 7 [.s 21],⟨gO,.un 23 .not (.s 22)⟩,gM 24 23,⟨some (24,false),.ld 25 6 true (.s 4)⟩,⟨some (24,false),.bsl 26 1 6 gZ [(0,6,.s 25)]⟩,⟨some (24,false),.call (some 27) (.k (.fn 8 [])) [.s 26]⟩,⟨some (24,false),.un 28 .not (.s 27)⟩,⟨gO,.pick 29 (.s 24) (.k (.bool true)) (.s 28)⟩,gM 30 29,gN 30 false 31 2,⟨some (30,false),.len 32 true (.s 31)⟩,⟨some (30,false),.bin 33 .gtr false (.s 32) (gI 300)⟩,⟨gO,.pick 34 (.s 30) (.k (.bool true)) (.s 33)⟩]) (.cond (.s 34) (.seq (gQ [gC 35 9 [],gM 6 35]) .ret) .skip)) (.seq (.regs [gM 37 0,⟨gO,.calls (some 38) (.k (.fn 10 [])) [.s 37]⟩,gM 36 38,gX 39 0 36,gX 40 1 36,gX 41 2 36,gM 7 39,gM 8 40,gM 9 41]) (.seq (gQ [gM 42 7,gA 43 6 4,gM 44 2,⟨gO,.calls (some 45) (.k (.fn 11 [])) [.s 42,.s 43,.s 44]⟩,⟨gO,.alloc 10 gZ⟩,gT 6 10 45]) (.seq (.seq (gQ [gM 46 9,gU 47 .neq 46 0]) (.cond (.s 47) (.seq (gQ [gC 48 9 [],gM 49 48,⟨some (49,true),.off 50 0 (.s 10)⟩,⟨some (49,true),.ld 51 1 false (.s 50)⟩,⟨some (49,true),.bin 52 .eql false (.s 51) (gI 0)⟩,⟨gO,.pick 53 (.s 49) (.s 52) (.k (.bool false))⟩,gM 6 53]) .ret) .skip)) (.seq (gQ [gA 55 6 10,⟨gO,.bsl 56 1 1 [.str ⟨#[]⟩] [(0,1,gS ⟨#[86,97,108,117,101,115]⟩)]⟩,gC 57 12 [.s 55,.s 56],gM 54 57,gX 58 0 54,gX 59 1 54,⟨gO,.alloc 11 gZ⟩,gT 6 11 58,gM 12 59]) (.seq (gQ [gA 61 6 10,⟨gO,.bsl 62 2 1 [.str ⟨#[]⟩,.str ⟨#[]⟩] [(0,1,gS ⟨#[67,104,97,114,116]⟩),(1,1,gS ⟨#[78,97,109,101]⟩)]⟩,gC 63 12 [.s 61,.s 62],gM 60 63,gX 64 0 60,gX 65 1 60,⟨gO,.alloc 13 gZ⟩,gT 6 13 64,gM 14 65]) (.seq (gQ [gA 67 6 10,⟨gO,.bsl 68 2 1 [.str ⟨#[]⟩,.str ⟨#[]⟩] [(0,1,gS ⟨#[67,104,97,114,116]⟩),(1,1,gS ⟨#[86,101,114,115,105,111,110]⟩)]⟩,gC 69 12 [.s 67,.s 68],gM 66 69,gX 70 0 66,gX 71 1 66,⟨gO,.alloc 15 gZ⟩,gT 6 15 70,gM 16 71]) (.seq (gQ [gA 73 6 10,⟨gO,.bsl 74 2 1 [.str ⟨#[]⟩,.str ⟨#[]⟩] [(0,1,gS ⟨#[82,101,108,101,97,115,101]⟩),(1,1,gS ⟨#[78,97,109,101]⟩)]⟩,gC 75 12 [.s 73,.s 74],gM 72 75,gX 76 0 72,gX 77 1 72,⟨gO,.alloc 17 gZ⟩,gT 6 17 76,gM 18 77]) (.seq (gQ [⟨gO,.call (some 79) (.k (.fn 13 [])) [gS ⟨#[]⟩]⟩,gM 78 79,gX 80 0 78,gX 81 1 78,⟨gO,.alloc 19 gZ⟩,gT 6 19 80,gM 20 81]) (.seq (gQ [gC 82 9 [],gM 83 82,gN 83 true 84 12,⟨gO,.pick 85 (.s 83) (.s 84) (.k (.bool false))⟩,gM 86 85,gN 86 true 87 14,⟨gO,.pick 88 (.s 86) (.s 87) (.k (.bool false))⟩,gM 89 88,gN 89 true 90 16,⟨gO,.pick 91 (.s 89) (.s 90) (.k (.bool false))⟩,gM 92 91,gN 92 true 93 18,⟨gO,.pick 94 (.s 92) (.s 93) (.k (.bool false))⟩,gM 95 94,gN 95 true 96 20,⟨some (95,true),.bin 97 .eql false (.s 96) (gI 0)⟩,⟨gO,.pick 98 (.s 95) (.s 97) (.k (.bool false))⟩,gM 99 98,⟨some (99,true),.off 100 5 (.s 10)⟩,⟨some (99,true),.ld 101 1 false (.s 100)⟩,⟨some (99,true),.len 102 false (.s 101)⟩,⟨some (99,true),.bin 103 .eql false (.s 102) (gI 3)⟩,⟨gO,.pick 104 (.s 99) (.s 103) (.k (.bool false))⟩,gM 105 104,⟨some (105,true),.ld 106 6 true (.s 11)⟩,⟨some (105,true),.ld 107 6 true (.s 4)⟩,⟨some (105,true),.call (some 108) (.k (.fn 14 [])) [.s 106,.s 107]⟩,⟨gO,.pick 109 (.s 105) (.s 108) (.k (.bool false))⟩,gM 110 109,⟨some (110,true),.off 111 3 (.s 13)⟩,⟨some (110,true),.ld 112 1 false (.s 111)⟩,gN 110 true 113 7,⟨some (110,true),.off 114 0 (.s 113)⟩,⟨some (110,true),.off 115 0 (.s 114)⟩,⟨some (110,true),.ld 116 1 false (.s 115)⟩,⟨some (110,true),.bin 117 .eql false (.s 112) (.s 116)⟩,⟨gO,.pick 118 (.s 110) (.s 117) (.k (.bool false))⟩,gM 119 118,⟨some (119,true),.off 120 3 (.s 15)⟩,⟨some (119,true),.ld 121 1 false (.s 120)⟩,gN 119 true 122 7,⟨some (119,true),.off 123 0 (.s 122)⟩,⟨some (119,true),.off 124 1 (.s 123)⟩,⟨some (119,true),.ld 125 1 false (.s 124)⟩,⟨some (119,true),.bin 126 .eql false (.s 121) (.s 125)⟩,⟨gO,.pick 127 (.s 119) (.s 126) (.k (.bool false))⟩,gM 128 127,⟨some (128,true),.off 129 3 (.s 17)⟩,⟨some (128,true),.ld 130 1 false (.s 129)⟩,gN 128 true 131 2,⟨some (128,true),.bin 132 .eql false (.s 130) (.s 131)⟩,⟨gO,.pick 133 (.s 128) (.s 132) (.k (.bool false))⟩,gM 134 133,⟨some (134,true),.off 135 0 (.s 17)⟩,⟨some (134,true),.ld 136 1 false (.s 135)⟩,⟨some (134,true),.bin 137 .eql false (.s 136) (gI 3)⟩,⟨gO,.pick 138 (.s 134) (.s 137) (.k (.bool false))⟩,gM 6 138]) .ret))))))))))
def ic:AFn:=⟨3,139,cD,[.tmp 6]⟩
theorem lm:ax Tryz.prog [2000040,2000041,2000043,2000010,2000026,2000083,2000011,5000003] Tryz.f3=some ic:=kk
theorem lq:aa Tryz.prog 3=true:=kk
end
section
open Go.RowKit
theorem Ky {ids:List Nat} {c g j m:Nat} {nm ver:ByteArray} {v:V} {ts:TS} {i:CI} {l:List AV} {r:Nat→Option (List AV×Bool)} (p:(ids.all (fun i=>Nat.ble 1000000 i||bW i [c,g,j,m])&&([.sli g 0 0 0,.sli j 0 0 0,.np m 0]:List AV).all (AV.inS [c,g,j,m]))=true) (C:l.all (AV.told1 [c,g,j,m])=true) (I:aX r (ap ids [(c,[]),(g,[]),(j,[]),(m,[])])=true):
  (okS ids (chK c g j m nm ver v ts i) (.tup l)&&aX r (ap ids (chK c g j m nm ver v ts i)))=true:=by
 rw [gA9] at p⊢;obtain ⟨p,J⟩:=p;refine ⟨?_,I⟩;have hd:aL (chK c g j m nm ver v ts i)= [c,g,j,m]:=rfl;unfold okS;rw [hd,gA9,gA9];refine ⟨⟨p,List.all_eq_true.2 fun y hy=> ?_⟩,C⟩;rcases gB2 hy with rfl|hy
 ·exact J
 rcases gB2 hy with rfl|hy
 ·exact (al ts).inS _ _
 rcases gB2 hy with rfl|hy
 ·exact (am ts).inS _ _
 rw [gB1 hy];rfl
def chG (c:CS):NF→List (Nat×List AV)
 |none=>chS 1000100 c.nm c.ver c.v
 |some (false,i)=>chK 1000100 1000101 1000102 1900101 c.nm c.ver c.v c.ts i
 |some (true,i)=>chK 1000100 1000103 1000104 1900102 c.nm c.ver c.v c.ts i
theorem Kc (l:List Fl) (hl:l.length≤4398046511103) (C:l.length≤32→ ∀p∈l,p.1.size≤1000000) (J:(dY l).2.2=0):MSX Tryz.prog 10 [] [.lst .any 2 (aH l)] (wa (dY l).1) (chG (dY l).1) (fun _=> .tup [.np 1000100 0,.str ⟨#[]⟩,.int .i64 0]):=by
 have h:=(Co l hl C).ren (swY 23 1000100) aV (bm (by rfl));refine MSX.impE (I:=fun g=>(dY l).2.2=0→wa (dY l).1 g) (S' :=fun g=>my (swY 23 1000100) (nwS (dY l) g)) (r:=fun _=>(nwR (dY l)).renR (swY 23 1000100)) h fun g j=>⟨g,j J,?_,?_⟩
 ·unfold nwS
  rw [if_neg (by omega)];rcases g with _|⟨_|_,i⟩
  ·rfl
  ·exact (ib (swY 23 1000100) 23 1000101 1000102 1900101 (dY l).1.nm (dY l).1.ver (dY l).1.v (dY l).1.ts i).symm
  ·exact (ib (swY 23 1000100) 23 1000103 1000104 1900102 (dY l).1.nm (dY l).1.ver (dY l).1.v (dY l).1.ts i).symm
 ·unfold nwR
  rw [if_neg (by omega)];rfl
theorem IE (l:List Fl) (hl:l.length≤4398046511103) (i:l.length≤32→ ∀p∈l,p.1.size≤1000000) (g:(dY l).2.2≠0):MS Tryz.prog 10 [] [.lst .any 2 (aH l)] [] (.tup [.raw (.pointer none),.str (dY l).2.1,.int .i64 (dY l).2.2]):=
 (Co l hl i).one fun j _=>by
  unfold nwS nwR;rw [if_pos g,if_pos g];exact ⟨rfl,rfl⟩
theorem Ll:bL ⟨#[]⟩=(V.null,0):=kk
theorem IF (nm ver:ByteArray) (v:V) (rel:ByteArray):(xp nm ver v rel).get [dkV]=some v:=kk
theorem IG (nm ver:ByteArray) (v:V) (rel:ByteArray):(xp nm ver v rel).get [dkC,dkN]=some (V.str nm):=kk
theorem IH (nm ver:ByteArray) (v:V) (rel:ByteArray):(xp nm ver v rel).get [dkC,dkW]=some (V.str ver):=kk
theorem II (nm ver:ByteArray) (v:V) (rel:ByteArray):(xp nm ver v rel).get [dkR,dkN]=some (V.str rel):=kk
def IJ:ACode→ACode
 | .seq _ (.seq _ (.seq _ r))=>r
 |c=>c
set_option maxRecDepth 100000 in
set_option maxHeartbeats 8000000 in
theorem Kd {E:Env} (b:Bool) (nm ver:ByteArray) (u v:V) (rel:ByteArray) (J:v.size≤1000000):
  AK Tryz.prog E (RQ ic.res (.bool true)) [.c (IJ cD)] (au [(2,.str rel),(4,.ptr 4 0),(7,.np 1000100 0),(9,.int .i64 0)]) ⟨ag [(4,(vC (v)),false),(1000100,chX b nm ver u,false)],fun _=>0⟩:=by
 have T:=(LO b nm ver u v rel J).ren (swY 2000000 1000100) aV (bm (by rfl))
 have g:(xp nm ver v rel).size≤2000000000000:=by
  unfold xp abV;simp only [bo,aw,py];omega
 have g1:=fQ (p:= [dkV]) g (by decide) (IF nm ver v rel);have U:=fQ (p:= [dkC,dkN]) g (by decide) (IG nm ver v rel);have g3:=fQ (p:= [dkC,dkW]) g (by decide) (IH nm ver v rel);have g4:=fQ (p:= [dkR,dkN]) g (by decide) (II nm ver v rel);have P:=pd ⟨#[]⟩;rw [Ll] at P;have R:=Gc v.size v v (gA4 _) (by omega);rw [V.sameB_true.2 rfl] at R;have hA:=yz;rw [cD];simp only [IJ];obtain ⟨i,j,r,vs,C,I⟩:=v;cases b
 ·refine kW ?_
  refine kQ [.s [1000100] [(1000100,chX false nm ver u)] ((vA ((xp nm ver (.mk i j r vs C I) rel))))] ?_;refine kW ?_;refine kCf ?_;refine kW ?_;refine kQ [.v (.tup [(vA ((.mk i j r vs C I))),.bool true])] ?_;refine kW ?_;refine kQ [.v (.tup [(vA ((V.str nm))),.bool true])] ?_;refine kW ?_;refine kQ [.v (.tup [(vA ((V.str ver))),.bool true])] ?_;refine kW ?_;refine kQ [.v (.tup [(vA ((V.str rel))),.bool true])] ?_;refine kW ?_;refine kQ [.v (.tup [(vA (V.null)),.int .i64 0])] ?_;refine kW ?_;refine kQ [.v (.bool true),.v (.bool true)] ?_;refine kW ?_;refine aR ⟨_,rfl,?_⟩;show AV.bool (decide (((3:Nat):Int)=3)&&decide (nm=nm)&&decide (ver=ver)&&decide (rel=rel)&&decide ((3:Int)=3))=AV.bool true;simp
 ·refine kW ?_
  refine kQ [.s [1000100] [(1000100,chX true nm ver u)] ((vA ((xp nm ver (.mk i j r vs C I) rel))))] ?_;refine kW ?_;refine kCf ?_;refine kW ?_;refine kQ [.v (.tup [(vA ((.mk i j r vs C I))),.bool true])] ?_;refine kW ?_;refine kQ [.v (.tup [(vA ((V.str nm))),.bool true])] ?_;refine kW ?_;refine kQ [.v (.tup [(vA ((V.str ver))),.bool true])] ?_;refine kW ?_;refine kQ [.v (.tup [(vA ((V.str rel))),.bool true])] ?_;refine kW ?_;refine kQ [.v (.tup [(vA (V.null)),.int .i64 0])] ?_;refine kW ?_;refine kQ [.v (.bool true),.v (.bool true)] ?_;refine kW ?_;refine aR ⟨_,rfl,?_⟩;show AV.bool (decide (((3:Nat):Int)=3)&&decide (nm=nm)&&decide (ver=ver)&&decide (rel=rel)&&decide ((3:Int)=3))=AV.bool true;simp
set_option maxRecDepth 100000 in
set_option maxHeartbeats 8000000 in
theorem Af (l:List Fl) (v:V) (rel:ByteArray) (hl:l.length≤4398046511103) (hp: ∀p∈l,p.1.size≤140737488355328∧p.2.size≤140737488355328) (J:v.sb) (hrel:rel.size≤140737488355328):AC Tryz.prog 3 [.lst .any 2 (aH l),(vA (v)),.str rel] (.bool true):=by
 have hL:=Ix l (by omega);have hR:=Kb [v] (by simp) (fun x hx=>by rw [gB1 hx];exact J);rw [show aF [v]= [(vC (v))] from by rw [aF,aF,bM]] at hR;have hA:=yz;have g:=fun (E:Env) b nm ver u=> @Kd E b nm ver u v rel
 refine kE Tryz.func3 lm lq fun E hE=> ?_
 have g:=g E;rw [cD] at g;simp only [IJ] at g;refine kW ?_;refine kQ [.v (.bool (decide (iR l l.length≤3000))),.v (.bool (iF [v]))] ?_;refine kW ?_;refine kC (fun hb=> ?_) fun hb=> ?_
 ·clear hb
  refine kW ?_;refine kQ [.v (.bool true)] ?_;refine kW ?_;refine aR ⟨_,rfl,?_⟩;rfl
 have hb:decide (iR l l.length≤3000)=true∧iF [v]=true:=by
  cases h1:decide (iR l l.length≤3000)<;>cases h2:iF [v]<;>simp_all
 obtain ⟨j,C⟩:=hb;have j:=gB3 j;have hz:l.length≤32→ ∀p∈l,p.1.size≤1000000:=fun h p hm=>(Cr h hp j p hm).1
 have r:v.size≤1000000:=by
  simp only [iF,List.all_cons,List.all_nil,Bool.and_true,gA9] at C;have:=V.light_size C.1;omega
 refine kW ?_;by_cases he:(dY l).2.2≠0
 ·have P:=IE l hl hz he
  have hD:=J2 v rel;refine AK.regs ?_;refine SK.all [.s [] [] (.tup [.raw (.pointer none),.str (dY l).2.1,.int .i64 (dY l).2.2])] ?_ ?_
  ·((repeat' apply aI)<;>first|exact kD|(intro I;refine ⟨?_,kG⟩;(repeat' apply aI)<;>first|exact kD|skip)|skip)
  refine kW ?_;refine kQ [.v ((vA (V.null)))] ?_;refine kW ?_;refine kC (fun hb=> ?_) fun hb=> ?_
  ·clear hb
   refine kW ?_;refine kQ [.v (.bool true)] ?_;refine kW ?_;refine aR ⟨_,rfl,?_⟩;rfl
  ·exact absurd hb (by simpa using he)
 ·have R:(dY l).2.2=0:=by omega
  have P:=Kc l hl hz R;generalize (dY l).1=c at P;refine AK.regs ?_;refine SK.run 1 [] ?_ ?_
  ·((repeat' apply aI)<;>first|exact kD|(intro I;refine ⟨?_,kG⟩;(repeat' apply aI)<;>first|exact kD|skip)|skip)
  refine SK.callX (wa c) (chG c) (fun _=> .tup [.np 1000100 0,.str ⟨#[]⟩,.int .i64 0]) [] P (fun T U=> ?_) fun T U=> ?_
  ·rcases T with _|⟨_|_,i⟩
   ·rfl
   ·exact Ky (by rfl) (by rfl) (by rfl)
   ·exact Ky (by rfl) (by rfl) (by rfl)
  ·obtain ⟨nm,ver,u,ts,d⟩:=c
   rcases T with _|⟨_|_,i⟩
   all_goals
    refine SK.all [] ?_ ?_
    ·((repeat' apply aI)<;>first|exact kD|(intro I;refine ⟨?_,kG⟩;(repeat' apply aI)<;>first|exact kD|skip)|skip)
   ·refine AK.weak ?_ (g true nm ver u r)
    exact wN ⟨kI,kI,kI,kI,trivial⟩ ⟨kJ,kJ,trivial⟩ rfl rfl ⟨rfl,trivial⟩
   ·refine AK.weak ?_ (g false nm ver u r)
    exact wN ⟨kI,kI,kI,kI,trivial⟩ ⟨kJ,⟨_,rfl,.refl _,.refl _,.refl _,.refl _,.refl _,.refl _,.refl _,.refl _,.top _ rfl,.top _ rfl,.top _ rfl,trivial⟩,trivial⟩ rfl rfl ⟨rfl,trivial⟩
   ·refine AK.weak ?_ (g false nm ver u r)
    exact wN ⟨kI,kI,kI,kI,trivial⟩ ⟨kJ,⟨_,rfl,.refl _,.refl _,.refl _,.refl _,.refl _,.refl _,.refl _,.refl _,.top _ rfl,.top _ rfl,.top _ rfl,trivial⟩,trivial⟩ rfl rfl ⟨rfl,trivial⟩
end
end Go.Proofs.YtbgflifmanjpjaaGreatDoor
