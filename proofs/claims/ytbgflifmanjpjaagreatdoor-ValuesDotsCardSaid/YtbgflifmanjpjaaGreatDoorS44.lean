/- Part 44. -/
import Derived.Test.YtbgflifmanjpjaaGreatDoorS43
set_option linter.unusedSimpArgs false
set_option linter.unusedVariables false
namespace Go.Proofs.YtbgflifmanjpjaaGreatDoor
section
set_option maxRecDepth 100000
def xg:ACode:=
 .seq (gQ [⟨gO,.mov 2 (.k (.lst .nil 3 []))⟩,gJ 3 0]) (.seq (.seq (gQ [gM 13 0,gH 14 true 13,gU 15 .gtr 14 65536]) (.cond (.s 15) (.seq (gQ [⟨gO,.mov 2 (.k (.lst .nil 3 []))⟩,gJ 3 6]) .ret) .skip)) (.seq (gQ [⟨gO,.mov 4 (.k (.lst .nil 3 []))⟩]) (.seq (gQ [⟨gO,.mov 5 (.k (.bool false))⟩]) (.seq (.seq (gQ [gJ 6 0]) (.block 0 (.loop (.seq (.seq (gQ [gM 16 6,gM 17 0,gH 18 true 17,gV 19 .lss 16 18]) (.cond (.s 19) .skip (.exit 0))) (.block 1 (.seq (gQ [gM 20 0,gM 21 6,⟨gO,.sub 22 true 0 (.s 20) (some (.s 21)) none⟩,⟨gO,.call (some 23) (.k (.fn 104 [])) [.s 22,gS ⟨#[123,123]⟩]⟩,gM 7 23]) (.seq (gQ [gM 24 0,gM 25 6,⟨gO,.sub 26 true 0 (.s 24) (some (.s 25)) none⟩,gM 8 26]) (.seq (.seq (gQ [gM 27 7,gU 28 .geq 27 0]) (.cond (.s 28) (.reg [gM 29 8,gM 30 7,⟨gO,.sub 31 true 0 (.s 29) none (some (.s 30))⟩,gM 8 31]) .skip)) (.seq (gQ [gM 32 6,gM 9 32]) (.seq (.seq (gQ [gM 33 5]) (.cond (.s 33) (.seq (gQ [gM 34 8,⟨gO,.call (some 35) (.k (.fn 89 [])) [.s 34,gS ⟨#[32,9,10]⟩]⟩,gM 10 35]) (.seq (gQ [gM 36 9,gM 37 8,gH 38 true 37,gM 39 10,gH 40 true 39,gV 41 .sub 38 40,gV 42 .add 36 41,gM 9 42]) (.reg [gM 43 10,gM 8 43]))) .skip)) (.seq (.seq (gQ [gM 44 7,gU 45 .lss 44 0]) (.cond (.s 45) (.seq (.regs [gM 46 4,gM 47 8,gM 48 9,⟨gO,.build 49 [.bool false,.str ⟨#[]⟩,.int .i64 0] [(1,1,.s 47),(2,1,.s 48)]⟩,⟨gO,.calls (some 50) (.k (.fn 105 [])) [.s 46,.s 49]⟩,gM 2 50,gJ 3 0]) .ret) .skip)) (.seq (gQ [gM 51 7,gM 52 6,gV 53 .add 51 52,gM 7 53]) (.seq (gQ [gM 54 0,gM 55 7,gU 56 .add 55 2,gC 57 106 [.s 54,.s 56],gM 11 57]) (.seq (.seq (gQ [gM 58 11,gU 59 .lss 58 0]) (.cond (.s 59) (.seq (gQ [⟨gO,.mov 2 (.k (.lst .nil 3 []))⟩,gJ 3 21]) .ret) .skip)) (.seq (gQ [gM 60 0,gM 61 7,gU 62 .add 61 2,gM 63 11,⟨gO,.sub 64 true 0 (.s 60) (some (.s 62)) (some (.s 63))⟩,gM 12 64]) (.seq (.seq (gQ [gM 65 12,⟨gO,gB 66 .eql (.s 65) (gS ⟨#[45]⟩)⟩,gM 67 66,gN 67 false 68 12,⟨some (67,false),.call (some 69) (.k (.fn 42 [])) [.s 68,gS ⟨#[45,32]⟩]⟩,⟨gO,.pick 70 (.s 67) (.k (.bool true)) (.s 69)⟩]) (.cond (.s 70) (.seq (gQ [gM 71 8,⟨gO,.call (some 72) (.k (.fn 87 [])) [.s 71,gS ⟨#[32,9,10]⟩]⟩,gM 8 72]) (.reg [gM 73 12,⟨gO,.sub 74 true 0 (.s 73) (some (gI 1)) none⟩,gM 12 74])) .skip)) (.seq (gQ [gM 75 12,⟨gO,.call (some 76) (.k (.fn 107 [])) [.s 75,gS ⟨#[32,45]⟩]⟩,gM 5 76]) (.seq (.seq (gQ [gM 77 5]) (.cond (.s 77) (.reg [gM 78 12,gM 79 12,gH 80 true 79,gU 81 .sub 80 2,⟨gO,.sub 82 true 0 (.s 78) none (some (.s 81))⟩,gM 12 82]) .skip)) (.seq (.regs [gM 83 4,gM 84 8,gM 85 9,⟨gO,.build 86 [.bool false,.str ⟨#[]⟩,.int .i64 0] [(1,1,.s 84),(2,1,.s 85)]⟩,⟨gO,.calls (some 87) (.k (.fn 105 [])) [.s 83,.s 86]⟩,gM 4 87]) (.seq (gQ [gM 88 12,⟨gO,.call (some 89) (.k (.fn 108 [])) [.s 88,gS ⟨#[32,9,10]⟩]⟩,gM 12 89]) (.seq (.seq (gQ [gM 90 12,⟨gO,.call (some 91) (.k (.fn 42 [])) [.s 90,gS ⟨#[47,42]⟩]⟩,⟨gO,.un 92 .not (.s 91)⟩,gM 93 92,gN 93 false 94 12,⟨some (93,false),.call (some 95) (.k (.fn 107 [])) [.s 94,gS ⟨#[42,47]⟩]⟩,⟨some (93,false),.un 96 .not (.s 95)⟩,⟨gO,.pick 97 (.s 93) (.k (.bool true)) (.s 96)⟩,gM 98 97,gN 98 false 99 12,⟨some (98,false),.len 100 true (.s 99)⟩,⟨some (98,false),.bin 101 .lss false (.s 100) (gI 4)⟩,⟨gO,.pick 102 (.s 98) (.k (.bool true)) (.s 101)⟩]) (.cond (.s 102) (.reg [gM 103 4,gM 104 12,gM 105 7,⟨gO,.build 106 [.bool false,.str ⟨#[]⟩,.int .i64 0] [(0,1,.k (.bool true)),(1,1,.s 104),(2,1,.s 105)]⟩,⟨gO,.bsl 107 1 3 [.bool false,.str ⟨#[]⟩,.int .i64 0] [(0,3,.s 106)]⟩,⟨gO,.appr 108 3 32 (.s 103) (.s 107)⟩,gM 4 108]) .skip)) (.reg [gM 109 11,gU 110 .add 109 2,gM 6 110])))))))))))))))))))))) (.seq (gQ [gM 111 4,gM 2 111,gJ 3 0]) .ret)))))
def xh:AFn:=⟨1,112,xg,[.tmp 2,.tmp 3]⟩
theorem jy:ax Tryz.prog [2000216,2000213,2000158,2000290,2000289,2000264,2000245,2000215,2000059,2000112,2000058,2000159,2000110,2000105,4000108,5000017,5000029] Tryz.f57=some xh:=kk
theorem jz:aa Tryz.prog 57=true:=kk
end
section
open Go.RowKit
def tkJ (s:Bs):Nat×Bool×List Tok×FK→Fr×St
 |(a,cut,out,f)=>(au [(0,.str (toB s)),(4,tkO out f),(5,.bool cut),(6,.int .i64 a)],⟨ag (tkB out f),fun _=>0⟩)
theorem Ld (i:Bs):(decide (toB i=⟨#[45]⟩)||([45,32]:Bs).isPrefixOf i)=rR i:=by
 rw [show (⟨#[45]⟩:ByteArray)=toB [45] from rfl];unfold rR;congr 1;rw [Bool.eq_iff_iff,gB0,cP,beq_iff_eq]
theorem Ij {i:Bs} (h:rR i=true):1≤i.length:=by
 cases i with
 |nil=>cases h
 |cons _ _=>simp
theorem Ik {i:Bs} (h:vN i=true):2≤(inA i).length:=by
 unfold vN at h;have:=(List.isSuffixOf_iff_suffix.1 h).length_le;simpa using this
theorem EJ (i:Bs):(inA i).length≤i.length:=by
 unfold inA;split
 ·rw [gA6];omega
 ·exact gA4 _
abbrev wrdA (i:Bs):Bs:=if vN i=true then (inA i).take ((inA i).length-2) else inA i
theorem B5 (i:Bs):(wrdA i).length≤i.length:=by
 have:=EJ i;unfold wrdA;split
 ·rw [gA7];omega
 ·exact this
theorem eW {fr:Fr} {st:St} {L:List (Nat×AV)} {out:List Tok} {f:FK} (j:oC st fr L) (g:st=⟨ag (tkB out f),fun _=>0⟩) (p:oD L (tkB out f)=true):Weak fr st (au L) ⟨ag (tkB out f),fun _=>0⟩:=by
 subst g;refine wN j ?_ rfl p ?_
 ·rcases f with _|⟨_|_,i⟩
  ·trivial
  ·exact ⟨⟨_,rfl,iZ _⟩,trivial⟩
  ·exact ⟨⟨_,rfl,iZ _⟩,trivial⟩
 ·rcases f with _|⟨_|_,i⟩
  ·trivial
  ·exact ⟨(be _).noFrs _,trivial⟩
  ·exact ⟨(be _).noFrs _,trivial⟩
theorem l6 (st:St) (q:Nat) (l:List Tok) (cap m:Nat) (hb:st.box q=some (fK l m,true)) (g:aW q=false):AVle1 st (.sli q 3 l.length cap) (.lst .any 3 (ba l)):=by
 rw [←aZ l];exact .frz q 3 cap (ba l) (List.replicate m AV.top) hb (pr l) g
theorem ra (ids:List Nat) (g:ids= []∨ids= [1000001]∨ids= [1000002]) (l:List Tok) (j:FK) {i:Nat→Option (List AV×Bool)} (p:aX i (ap ids (tkS l j))=true):(okS ids (tkS l j) (tkO l j)&&aX i (ap ids (tkS l j)))=true:=by
 rw [p,Bool.and_true];rcases g with rfl|rfl|rfl<;>rcases j with _|⟨_|_,c,m⟩
 all_goals first
  |rfl
  |(show ((_&&((fK l m).all (AV.inS _)&&true))&&_)=true;rw [(be l).inS];rfl)
theorem Le (w:Bs):(!([47,42]:Bs).isPrefixOf w|| !Lib.hasSuffix w [42,47]||decide (((toB w).size:Int)<4))= !yi w:=by
 unfold yi;rw [ab];have e:decide (((w.length:Nat):Int)<4)= !decide (4≤w.length):=by by_cases h:4≤w.length<;>simp [h]<;>omega
 rw [e];cases ([47,42]:Bs).isPrefixOf w<;>cases Lib.hasSuffix w [42,47]<;>simp
set_option maxHeartbeats 8000000 in
theorem FY (s:Bs) (hl:s.length≤65536):AC Tryz.prog 57 [.str (toB s)] (.tup [.lst .any 3 (ba (cN s).1),.int .i64 (cN s).2]):=by
 have hix:=fun a=>Eu (s.drop a) [123,123] (by rw [gA6];omega)
 refine kE Tryz.func57 jy jz fun E hE=> ?_
 refine kW ?_;refine kC (fun hb=> ?_) fun hb=> ?_
 ·exfalso
  have:(65536:Int)<(toB s).size:=by simpa using hb
  rw [ab] at this;omega
 clear hb;refine kW ?_;refine aJ (tkJ s) (fun x=>x.1≤s.length∧td x.2.2.1 x.2.2.2∧x.2.2.1.length≤x.1∧ ∃n,s.length<n+x.1∧cN s=LD (nZ s n x.1 x.2.1 x.2.2.1)) (fun x=>s.length-x.1) (0,false,[],none) ⟨gB8 _,rfl,gA4 _,s.length+1,by dsimp only;omega,by unfold cN;rw [if_neg (by omega)]⟩ (wN ⟨kI,kI,kI,kI,trivial⟩ trivial rfl rfl trivial) fun ⟨a,cut,out,f⟩ hI=> ?_
 obtain ⟨ha,T,hlen,n,hn,r⟩:=hI;dsimp only at ha T hlen hn r;show AK _ _ _ _ (au _) _;obtain ⟨n,rfl⟩: ∃n',n=n' +1:=⟨n-1,by omega⟩
 unfold nZ at r;refine kW ?_;refine kC (fun hb=> ?_) fun hb=> ?_
 ·have hlt:a<s.length:=by simpa [ab] using hb
  clear hb;rw [if_neg (by omega)] at r;have hix:=hix a;have hrm:=Lib.index_room (s.drop a) [123,123];generalize Lib.index (s.drop a) [123,123]=ix at*;rw [gA6] at hrm;simp only [gA3,List.length_nil] at hrm;refine kW ?_;refine kP [.v (.int .i64 ix)] ?_ ?_
  ·((repeat' apply aI)<;>first|exact kD|(intro P;refine ⟨?_,kG⟩;(repeat' apply aI)<;>first|exact kD|skip)|skip)
   all_goals first|(rw [ab];omega)|(rw [bc];exact hix)|skip
  refine kW ?_;refine kP [] ?_ ?_
  ·((repeat' apply aI)<;>first|exact kD|(intro P;refine ⟨?_,kG⟩;(repeat' apply aI)<;>first|exact kD|skip)|skip)
   all_goals (rw [ab];omega)
  rw [bc];obtain ⟨t,ht⟩: ∃t,t=if ix<0 then s.drop a else (s.drop a).take ix.toNat:=⟨_,rfl⟩
  have htl:t.length≤s.length-a:=by
   rw [ht];split
   ·rw [gA6];exact gA4 _
   ·rw [gA7,gA6];omega
  refine kW ?_;refine AK.cutK (fun _:Unit=>True) (fun _=>au [(0,.str (toB s)),(4,tkO out f),(5,.bool cut),(6,.int .i64 a),(7,.int .i64 ix),(8,.str (toB t))]) (fun _=>⟨ag (tkB out f),fun _=>0⟩) ?_ fun _ _=> ?_
  ·refine kC (fun hb=> ?_) fun hb=> ?_
   ·have h0:0≤ix:=by simpa using hb
    have hrm:=hrm h0;rw [if_neg (by omega)] at ht;obtain ⟨p,rfl⟩:=Int.eq_ofNat_of_zero_le h0;refine kW ?_;refine kP [] ?_ ?_
    ·((repeat' apply aI)<;>first|exact kD|(intro P;refine ⟨?_,kG⟩;(repeat' apply aI)<;>first|exact kD|skip)|skip)
     all_goals first|omega|(rw [ab,gA6];omega)|skip
    rw [fN _ _ (by rw [gA6];omega),show (s.drop a).take p=t from ht.symm];refine kW ?_;exact cE ⟨(),trivial,eW ⟨kI,kI,kI,kI,kI,kI,trivial⟩ rfl (by rcases f with _|⟨_|_,_,_⟩<;>rfl)⟩
   ·have h0:ix<0:=by simpa using hb
    rw [if_pos h0] at ht;rw [←ht];refine kW ?_;exact cE ⟨(),trivial,eW ⟨kI,kI,kI,kI,kI,kI,trivial⟩ rfl (by rcases f with _|⟨_|_,_,_⟩<;>rfl)⟩
  have hcl:=qQ cut t;refine kW ?_;refine AK.cutK (fun _:Unit=>True) (fun _=>au [(0,.str (toB s)),(4,tkO out f),(6,.int .i64 a),(7,.int .i64 ix),(8,.str (toB (a7 cut t))),(9,.int .i64 ((a+(t.length-(a7 cut t).length):Nat):Int))]) (fun _=>⟨ag (tkB out f),fun _=>0⟩) ?_ fun _ _=> ?_
  ·cases cut with
   |false=>
    refine kCf ?_;refine kW ?_;refine cE ⟨(),trivial,eW ⟨kI,kI,kI,kI,kI,⟨_,rfl,.of_eq (congrArg (AV.int .i64) ?_)⟩,trivial⟩ rfl (by rcases f with _|⟨_|_,_,_⟩<;>rfl)⟩;show (a:Int)=((a+(t.length-t.length):Nat):Int);omega
   |true=>
    have htw:=BT t
    have hw1:IntKind.i64.wrap ((a:Int)+IntKind.i64.wrap (((toB t).size:Int)-((toB (tlw t)).size:Int)))=((a+(t.length-(tlw t).length):Nat):Int):=by
     have h1:(tlw t).length≤t.length:=hcl;have h2:IntKind.i64.wrap ((t.length:Int)-((tlw t).length:Int))=((t.length-(tlw t).length:Nat):Int):=by rw [aG (by omega) (by omega)];omega
     rw [ab,ab,h2,aG (by omega) (by omega)];omega
    refine kCt ?_;refine kW ?_;refine kQ [.v (.str (toB (tlw t)))] ?_;refine kW ?_;exact cE ⟨(),trivial,eW ⟨kI,kI,kI,kI,kI,⟨_,rfl,.of_eq (congrArg (AV.int .i64) hw1)⟩,trivial⟩ rfl (by rcases f with _|⟨_|_,_,_⟩<;>rfl)⟩
  have hbg:a+(t.length-(a7 cut t).length)≤s.length:=by omega
  obtain ⟨b,hb0⟩: ∃b,b=a+(t.length-(a7 cut t).length):=⟨_,rfl⟩
  rw [←hb0] at hbg⊢;have hrl: ∀k,(s.drop k).length≤s.length:=fun k=>by rw [gA6];omega
  refine kW ?_;refine kC (fun hb=> ?_) fun hb=> ?_
  ·have h0:ix<0:=by simpa using hb
   rw [if_pos h0] at ht r;rw [←ht,←hb0] at r;have r:cN s=(bw out ⟨false,a7 cut t,b⟩,0):=r;rw [r];clear r hb;rcases f with _|⟨_|_,cap,m⟩
   ·have ho:out= []:=T
    subst ho;have hM:=Kr ⟨false,a7 cut t,b⟩;refine kW ?_;refine AK.regs ?_;refine SK.run 4 [] trivial ?_;refine SK.callX (td (bw [] ⟨false,a7 cut t,b⟩)) (tkS (bw [] ⟨false,a7 cut t,b⟩)) (tkO (bw [] ⟨false,a7 cut t,b⟩)) [] hM (fun j C=>ra [] (by simp) _ j (by rcases j with _|⟨_|_,_,_⟩<;>rfl)) fun j C=> ?_
    rcases j with _|⟨_|_,cap',J⟩
    ·refine SK.all [] trivial ?_
     refine aR ⟨_,rfl,?_⟩;rw [show bw [] ⟨false,a7 cut t,b⟩= [] from C];rfl
    ·refine SK.all [] trivial ?_
     refine AK.fz 1000001 rfl ?_;refine AK.weak (wN (L:= [(2,.lst .any 3 (ba (bw [] ⟨false,a7 cut t,b⟩))),(3,.int .i64 0)]) (BL:= []) ⟨⟨_,rfl,.one (l6 _ 1000001 (bw [] ⟨false,a7 cut t,b⟩) cap' J rfl rfl)⟩,kI,trivial⟩ trivial rfl rfl trivial) ?_;exact aR ⟨_,rfl,rfl⟩
    ·refine SK.all [] trivial ?_
     refine AK.fz 1000002 rfl ?_;refine AK.weak (wN (L:= [(2,.lst .any 3 (ba (bw [] ⟨false,a7 cut t,b⟩))),(3,.int .i64 0)]) (BL:= []) ⟨⟨_,rfl,.one (l6 _ 1000002 (bw [] ⟨false,a7 cut t,b⟩) cap' J rfl rfl)⟩,kI,trivial⟩ trivial rfl rfl trivial) ?_;exact aR ⟨_,rfl,rfl⟩
   ·have hM:=Ks out (by omega) cap m T ⟨false,a7 cut t,b⟩
    refine kW ?_;refine AK.regs ?_;refine SK.run 4 [] trivial ?_;refine SK.callX (td (bw out ⟨false,a7 cut t,b⟩)) (tkS (bw out ⟨false,a7 cut t,b⟩)) (tkO (bw out ⟨false,a7 cut t,b⟩)) [1000001] hM (fun j C=>ra [1000001] (by simp) _ j (by rcases j with _|⟨_|_,_,_⟩<;>rfl)) fun j C=> ?_
    rcases j with _|⟨_|_,cap',J⟩
    ·refine SK.all [] trivial ?_
     refine aR ⟨_,rfl,?_⟩;rw [show bw out ⟨false,a7 cut t,b⟩= [] from C];rfl
    ·refine SK.all [] trivial ?_
     refine AK.fz 1000001 rfl ?_;refine AK.weak (wN (L:= [(2,.lst .any 3 (ba (bw out ⟨false,a7 cut t,b⟩))),(3,.int .i64 0)]) (BL:= []) ⟨⟨_,rfl,.one (l6 _ 1000001 (bw out ⟨false,a7 cut t,b⟩) cap' J rfl rfl)⟩,kI,trivial⟩ trivial rfl rfl trivial) ?_;exact aR ⟨_,rfl,rfl⟩
    ·refine SK.all [] trivial ?_
     refine AK.fz 1000002 rfl ?_;refine AK.weak (wN (L:= [(2,.lst .any 3 (ba (bw out ⟨false,a7 cut t,b⟩))),(3,.int .i64 0)]) (BL:= []) ⟨⟨_,rfl,.one (l6 _ 1000002 (bw out ⟨false,a7 cut t,b⟩) cap' J rfl rfl)⟩,kI,trivial⟩ trivial rfl rfl trivial) ?_;exact aR ⟨_,rfl,rfl⟩
   ·have hM:=Kt out (by omega) cap m T ⟨false,a7 cut t,b⟩
    refine kW ?_;refine AK.regs ?_;refine SK.run 4 [] trivial ?_;refine SK.callX (td (bw out ⟨false,a7 cut t,b⟩)) (tkS (bw out ⟨false,a7 cut t,b⟩)) (tkO (bw out ⟨false,a7 cut t,b⟩)) [1000002] hM (fun j C=>ra [1000002] (by simp) _ j (by rcases j with _|⟨_|_,_,_⟩<;>rfl)) fun j C=> ?_
    rcases j with _|⟨_|_,cap',J⟩
    ·refine SK.all [] trivial ?_
     refine aR ⟨_,rfl,?_⟩;rw [show bw out ⟨false,a7 cut t,b⟩= [] from C];rfl
    ·refine SK.all [] trivial ?_
     refine AK.fz 1000001 rfl ?_;refine AK.weak (wN (L:= [(2,.lst .any 3 (ba (bw out ⟨false,a7 cut t,b⟩))),(3,.int .i64 0)]) (BL:= []) ⟨⟨_,rfl,.one (l6 _ 1000001 (bw out ⟨false,a7 cut t,b⟩) cap' J rfl rfl)⟩,kI,trivial⟩ trivial rfl rfl trivial) ?_;exact aR ⟨_,rfl,rfl⟩
    ·refine SK.all [] trivial ?_
     refine AK.fz 1000002 rfl ?_;refine AK.weak (wN (L:= [(2,.lst .any 3 (ba (bw out ⟨false,a7 cut t,b⟩))),(3,.int .i64 0)]) (BL:= []) ⟨⟨_,rfl,.one (l6 _ 1000002 (bw out ⟨false,a7 cut t,b⟩) cap' J rfl rfl)⟩,kI,trivial⟩ trivial rfl rfl trivial) ?_;exact aR ⟨_,rfl,rfl⟩
  have h0:0≤ix:=by
   have: ¬ix<0:=by simpa using hb
   omega
  clear hb;have hrm:=hrm h0;rw [if_neg (by omega)] at ht r;obtain ⟨p,rfl⟩:=Int.eq_ofNat_of_zero_le h0;simp only [Int.toNat_natCast] at ht r;rw [←ht] at r;simp only [←hb0] at r;have hw1:IntKind.i64.wrap ((p:Int)+(a:Int))=((p+a:Nat):Int):=by rw [aG (by omega) (by omega)];omega
  have hw2:IntKind.i64.wrap (((p+a:Nat):Int)+2)=((p+a+2:Nat):Int):=by rw [aG (by omega) (by omega)];omega
  have hcd:=H8 s (p+a+2) (by omega) (by omega);refine kW ?_;rw [hw1];refine kW ?_;refine kP [.v (.int .i64 (clI (kf s (p+a+2))))] ?_ ?_
  ·((repeat' apply aI)<;>first|exact kD|(intro P;refine ⟨?_,kG⟩;(repeat' apply aI)<;>first|exact kD|skip)|skip)
   all_goals (rw [hw2];exact hcd)
  refine kW ?_;cases hc:kf s (p+a+2) with
  |none=>
   rw [hc] at r;have r:cN s=([],21):=r;rw [r];refine kCt ?_;refine kW ?_;exact aR ⟨_,rfl,rfl⟩
  |some e=>
  rw [hc] at r;dsimp only at r;obtain ⟨he1,he2⟩:=vP hc;obtain ⟨i,hi⟩: ∃i,i=(s.take e).drop (p+a+2):=⟨_,rfl⟩
  have hil:i.length≤s.length:=by rw [hi,gA6,gA7];omega
  rw [←hi] at r;have hp:=lN (toB i) (toB [45,32]);rw [j0] at hp;have htr:=LE (a7 cut t) (by omega);have hinl:=EJ i;have hwl:=B5 i;have hsf:=qx (inA i) [32,45] (by omega);have htm:=LF (wrdA i) (by omega);refine kC (fun hb=> ?_) fun hb=> ?_
  ·exfalso
   have:((e:Nat):Int)<0:=gB3 hb;omega
  clear hb;refine kW ?_;refine kP [] ?_ ?_
  ·((repeat' apply aI)<;>first|exact kD|(intro P;refine ⟨?_,kG⟩;(repeat' apply aI)<;>first|exact kD|skip)|skip)
   all_goals first|(rw [hw2];show _≤((e:Nat):Int);omega)|(show ((e:Nat):Int)≤_;rw [ab];omega)|(rw [hw2];omega)|skip
  rw [hw2,show clI (some e)=((e:Nat):Int) from rfl,Int.toNat_natCast,Int.toNat_natCast,zB s _ _ (by omega),←hi];refine kW ?_;refine kQ [.v (.bool (([45,32]:Bs).isPrefixOf i))] ?_;rw [Ld];obtain ⟨t2,ht2⟩: ∃t2,t2=if rR i=true then trw (a7 cut t) else a7 cut t:=⟨_,rfl⟩
  rw [←ht2] at r;refine AK.cutK (fun _:Unit=>True) (fun _=>au [(0,.str (toB s)),(4,tkO out f),(7,.int .i64 ((p+a:Nat):Int)),(8,.str (toB t2)),(9,.int .i64 (b:Int)),(11,.int .i64 (e:Int)),(12,.str (toB (inA i)))]) (fun _=>⟨ag (tkB out f),fun _=>0⟩) ?_ fun _ _=> ?_
  ·refine kC (fun hb=> ?_) fun hb=> ?_
   ·have hd1:=Ij hb
    rw [if_pos hb] at ht2;have hin:inA i=i.drop 1:=by unfold inA;rw [if_pos hb]
    refine kW ?_;refine kQ [.v (.str (toB (trw (a7 cut t))))] ?_;refine kW ?_;refine kP [] ?_ ?_
    ·((repeat' apply aI)<;>first|exact kD|(intro P;refine ⟨?_,kG⟩;(repeat' apply aI)<;>first|exact kD|skip)|skip)
     all_goals (rw [ab];omega)
    rw [show ((1:Int)).toNat=1 from rfl,Int.toNat_natCast,fe,←hin,←ht2];refine kW ?_;exact cE ⟨(),trivial,eW ⟨kI,kI,kI,kI,kI,kI,kI,trivial⟩ rfl (by rcases f with _|⟨_|_,_,_⟩<;>rfl)⟩
   ·rw [if_neg (by rw [hb];simp)] at ht2
    have hin:inA i=i:=by unfold inA;rw [if_neg (by rw [hb];simp)]
    rw [←ht2];refine kW ?_;exact cE ⟨(),trivial,eW ⟨kI,kI,kI,kI,kI,kI,⟨_,rfl,.of_eq (by rw [hin])⟩,trivial⟩ rfl (by rcases f with _|⟨_|_,_,_⟩<;>rfl)⟩
  refine kW ?_;refine kQ [.v (.bool (vN i))] ?_;refine kW ?_;refine AK.cutK (fun _:Unit=>True) (fun _=>au [(0,.str (toB s)),(4,tkO out f),(5,.bool (vN i)),(7,.int .i64 ((p+a:Nat):Int)),(8,.str (toB t2)),(9,.int .i64 (b:Int)),(11,.int .i64 (e:Int)),(12,.str (toB (wrdA i)))]) (fun _=>⟨ag (tkB out f),fun _=>0⟩) ?_ fun _ _=> ?_
  ·cases hca:vN i with
   |true=>
    have hc2:=Ik hca;have hwr:wrdA i=(inA i).take ((inA i).length-2):=by unfold wrdA;rw [if_pos hca]
    have hw3:IntKind.i64.wrap (((toB (inA i)).size:Int)-2)=(((inA i).length-2:Nat):Int):=by rw [ab,aG (by omega) (by omega)];omega
    refine kCt ?_;refine kW ?_;refine kP [] ?_ ?_
    ·((repeat' apply aI)<;>first|exact kD|(intro P;refine ⟨?_,kG⟩;(repeat' apply aI)<;>first|exact kD|skip)|skip)
     all_goals (rw [hw3];first|omega|(rw [ab];omega))
    rw [hw3,fN _ _ (by omega),←hwr];refine kW ?_;exact cE ⟨(),trivial,eW ⟨kI,kI,kI,kI,kI,kI,kI,kI,trivial⟩ rfl (by rcases f with _|⟨_|_,_,_⟩<;>rfl)⟩
   |false=>
    have hwr:wrdA i=inA i:=by unfold wrdA;rw [if_neg (by rw [hca];simp)]
    refine kCf ?_;refine kW ?_;exact cE ⟨(),trivial,eW ⟨kI,kI,kI,kI,kI,kI,kI,⟨_,rfl,.of_eq (by rw [hwr])⟩,trivial⟩ rfl (by rcases f with _|⟨_|_,_,_⟩<;>rfl)⟩
  refine kW ?_;refine AK.cutK (td (bw out ⟨false,t2,b⟩)) (fun f2=>au [(0,.str (toB s)),(4,tkO (bw out ⟨false,t2,b⟩) f2),(5,.bool (vN i)),(7,.int .i64 ((p+a:Nat):Int)),(11,.int .i64 (e:Int)),(12,.str (toB (wrdA i)))]) (fun f2=>⟨ag (tkB (bw out ⟨false,t2,b⟩) f2),fun _=>0⟩) ?_ fun f2 U=> ?_
  ·clear r
   rcases f with _|⟨_|_,cap,m⟩
   ·have ho:out= []:=T
    subst ho;have hM:=Kr ⟨false,t2,b⟩;refine kW ?_;refine AK.regs ?_;refine SK.run 4 [] trivial ?_;refine SK.callX (td (bw [] ⟨false,t2,b⟩)) (tkS (bw [] ⟨false,t2,b⟩)) (tkO (bw [] ⟨false,t2,b⟩)) [] hM (fun j C=>ra [] (by simp) _ j (by rcases j with _|⟨_|_,_,_⟩<;>rfl)) fun j C=> ?_
    rcases j with _|⟨_|_,cap',J⟩
    ·refine SK.all [] trivial ?_
     exact cE ⟨none,C,wN ⟨kI,kI,kI,kI,kI,kI,trivial⟩ trivial rfl rfl trivial⟩
    ·refine SK.all [] trivial ?_
     exact cE ⟨some (false,cap',J),C,wN ⟨kI,kI,kI,kI,kI,kI,trivial⟩ ⟨kJ,trivial⟩ rfl rfl ⟨(be _).noFrs _,trivial⟩⟩
    ·refine SK.all [] trivial ?_
     exact cE ⟨some (true,cap',J),C,wN ⟨kI,kI,kI,kI,kI,kI,trivial⟩ ⟨kJ,trivial⟩ rfl rfl ⟨(be _).noFrs _,trivial⟩⟩
   ·have hM:=Ks out (by omega) cap m T ⟨false,t2,b⟩
    refine kW ?_;refine AK.regs ?_;refine SK.run 4 [] trivial ?_;refine SK.callX (td (bw out ⟨false,t2,b⟩)) (tkS (bw out ⟨false,t2,b⟩)) (tkO (bw out ⟨false,t2,b⟩)) [1000001] hM (fun j C=>ra [1000001] (by simp) _ j (by rcases j with _|⟨_|_,_,_⟩<;>rfl)) fun j C=> ?_
    rcases j with _|⟨_|_,cap',J⟩
    ·refine SK.all [] trivial ?_
     exact cE ⟨none,C,wN ⟨kI,kI,kI,kI,kI,kI,trivial⟩ trivial rfl rfl trivial⟩
    ·refine SK.all [] trivial ?_
     exact cE ⟨some (false,cap',J),C,wN ⟨kI,kI,kI,kI,kI,kI,trivial⟩ ⟨kJ,trivial⟩ rfl rfl ⟨(be _).noFrs _,trivial⟩⟩
    ·refine SK.all [] trivial ?_
     exact cE ⟨some (true,cap',J),C,wN ⟨kI,kI,kI,kI,kI,kI,trivial⟩ ⟨kJ,trivial⟩ rfl rfl ⟨(be _).noFrs _,trivial⟩⟩
   ·have hM:=Kt out (by omega) cap m T ⟨false,t2,b⟩
    refine kW ?_;refine AK.regs ?_;refine SK.run 4 [] trivial ?_;refine SK.callX (td (bw out ⟨false,t2,b⟩)) (tkS (bw out ⟨false,t2,b⟩)) (tkO (bw out ⟨false,t2,b⟩)) [1000002] hM (fun j C=>ra [1000002] (by simp) _ j (by rcases j with _|⟨_|_,_,_⟩<;>rfl)) fun j C=> ?_
    rcases j with _|⟨_|_,cap',J⟩
    ·refine SK.all [] trivial ?_
     exact cE ⟨none,C,wN ⟨kI,kI,kI,kI,kI,kI,trivial⟩ trivial rfl rfl trivial⟩
    ·refine SK.all [] trivial ?_
     exact cE ⟨some (false,cap',J),C,wN ⟨kI,kI,kI,kI,kI,kI,trivial⟩ ⟨kJ,trivial⟩ rfl rfl ⟨(be _).noFrs _,trivial⟩⟩
    ·refine SK.all [] trivial ?_
     exact cE ⟨some (true,cap',J),C,wN ⟨kI,kI,kI,kI,kI,kI,trivial⟩ ⟨kJ,trivial⟩ rfl rfl ⟨(be _).noFrs _,trivial⟩⟩
  have hal:=vQ out ⟨false,t2,b⟩;generalize bw out ⟨false,t2,b⟩=g at*;refine kW ?_;refine kQ [.v (.str (toB (cv i)))] ?_;have hp2:=lN (toB (cv i)) (toB [47,42]);rw [j0] at hp2;have hwl2:(cv i).length≤s.length:=gB7 (EE _) (gB7 hwl hil);have hs2:=qx (cv i) [42,47] (by omega);refine kW ?_;refine kQ [.v (.bool (([47,42]:Bs).isPrefixOf (cv i))),.v (.bool (Lib.hasSuffix (cv i) [42,47]))] ?_;rw [Le];obtain ⟨I,ho2⟩: ∃I,I=if yi (cv i)=true then g else g++ [⟨true,cv i,p+a⟩]:=⟨_,rfl⟩
  rw [←ho2] at r;have hol2:I.length≤g.length+1:=by rw [ho2];split<;>simp
  refine AK.cutK (td I) (fun f3=>au [(0,.str (toB s)),(4,tkO I f3),(5,.bool (vN i)),(11,.int .i64 (e:Int))]) (fun f3=>⟨ag (tkB I f3),fun _=>0⟩) ?_ fun f3 hok3=> ?_
  ·refine kC (fun hb=> ?_) fun hb=> ?_
   ·have hno:yi (cv i)=false:=by simpa using hb
    rw [if_neg (by rw [hno];simp)] at ho2;subst ho2;clear hb r;refine kW ?_;rcases f2 with _|⟨_|_,cap0,m0⟩
    ·have ho:g= []:=U
     refine kP [.m [] []] ?_ ?_
     ·((repeat' apply aI)<;>first|exact kD|(intro P;refine ⟨?_,kG⟩;(repeat' apply aI)<;>first|exact kD|skip)|skip)
      all_goals first|(show 0<1;omega)|(show 1*32≤140737488355328;omega)|(show 1≤140737488355328;omega)|skip
     refine cO 4 108 1000001 rfl (by omega) rfl fun cap m h1 h2=> ?_
     exact ⟨some (false,cap,m),by rw [ho];exact ⟨h1,h2⟩,wN ⟨kI,⟨_,rfl,.of_eq (by rw [ho];rfl)⟩,kI,kI,trivial⟩ ⟨⟨_,rfl,aD (by rw [ho];rfl)⟩,trivial⟩ rfl rfl ⟨(be _).noFrs _,trivial⟩⟩
    ·obtain ⟨q1,q2⟩:=U
     dsimp only at q1 q2;refine kP [.m (ba g) []] ?_ ?_
     ·((repeat' apply aI)<;>first|exact kD|(intro P;refine ⟨?_,kG⟩;(repeat' apply aI)<;>first|exact kD|skip)|skip)
      all_goals first|exact ⟨_,rfl⟩|exact q2|exact (aZ g).symm|exact (pr g).2|(rw [aZ];show (g.length+1)*32≤140737488355328;omega)|(rw [aZ];show g.length+1≤140737488355328;omega)|(show 0<1;omega)|skip
     refine cO 4 108 1000001 rfl (by omega) rfl fun cap m h1 h2=> ?_
     have R:ba g++ [[AV.bool true,.str (toB (cv i)),.int .i64 ((p+a:Nat):Int)]]=ba (g++ [⟨true,cv i,p+a⟩]):=(n7 g ⟨true,cv i,p+a⟩).symm;refine ⟨some (false,cap,m),⟨?_,?_⟩,wN ⟨kI,⟨_,rfl,.of_eq ?_⟩,kI,kI,trivial⟩ ⟨⟨_,rfl,aD ?_⟩,trivial⟩ rfl rfl ⟨(be _).noFrs _,trivial⟩⟩
     ·rw [←aZ,←R];exact h1
     ·show ((ba (g++ [⟨true,cv i,p+a⟩])).flatten++_).length=_
      rw [←R];exact h2
     ·show AV.sli 1000001 3 (ba g++ [[AV.bool true,.str (toB (cv i)),.int .i64 ((p+a:Nat):Int)]]).length cap=_
      rw [R,aZ];rfl
     ·show (ba g++ [[AV.bool true,.str (toB (cv i)),.int .i64 ((p+a:Nat):Int)]]).flatten++_=_
      rw [R]
    ·obtain ⟨q1,q2⟩:=U
     dsimp only at q1 q2;refine kP [.m (ba g) []] ?_ ?_
     ·((repeat' apply aI)<;>first|exact kD|(intro P;refine ⟨?_,kG⟩;(repeat' apply aI)<;>first|exact kD|skip)|skip)
      all_goals first|exact ⟨_,rfl⟩|exact q2|exact (aZ g).symm|exact (pr g).2|(rw [aZ];show (g.length+1)*32≤140737488355328;omega)|(rw [aZ];show g.length+1≤140737488355328;omega)|(show 0<1;omega)|skip
     refine cO 4 108 1000001 rfl (by omega) rfl fun cap m h1 h2=> ?_
     have R:ba g++ [[AV.bool true,.str (toB (cv i)),.int .i64 ((p+a:Nat):Int)]]=ba (g++ [⟨true,cv i,p+a⟩]):=(n7 g ⟨true,cv i,p+a⟩).symm;refine ⟨some (false,cap,m),⟨?_,?_⟩,wN ⟨kI,⟨_,rfl,.of_eq ?_⟩,kI,kI,trivial⟩ ⟨⟨_,rfl,aD ?_⟩,trivial⟩ rfl rfl ⟨(be _).noFrs _,trivial⟩⟩
     ·rw [←aZ,←R];exact h1
     ·show ((ba (g++ [⟨true,cv i,p+a⟩])).flatten++_).length=_
      rw [←R];exact h2
     ·show AV.sli 1000001 3 (ba g++ [[AV.bool true,.str (toB (cv i)),.int .i64 ((p+a:Nat):Int)]]).length cap=_
      rw [R,aZ];rfl
     ·show (ba g++ [[AV.bool true,.str (toB (cv i)),.int .i64 ((p+a:Nat):Int)]]).flatten++_=_
      rw [R]
   ·have hno:yi (cv i)=true:=by simpa using hb
    rw [if_pos hno] at ho2;subst ho2;refine kW ?_;exact cE ⟨f2,U,eW ⟨kI,kI,kI,kI,trivial⟩ rfl (by rcases f2 with _|⟨_|_,_,_⟩<;>rfl)⟩
  have hw4:IntKind.i64.wrap (((e:Nat):Int)+2)=((e+2:Nat):Int):=by rw [aG (by omega) (by omega)];omega
  refine kW ?_;exact AK.lp ⟨(e+2,vN i,I,f3),⟨he2,hok3,by dsimp only;omega,n,by dsimp only;omega,r⟩,eW ⟨kI,kI,kI,⟨_,rfl,.of_eq (congrArg (AV.int .i64) hw4)⟩,trivial⟩ rfl (by rcases f3 with _|⟨_|_,_,_⟩<;>rfl),by dsimp only;omega⟩
 ·have hge:s.length≤a:=by simpa [ab] using hb
  rw [if_pos hge] at r;have r:cN s=(out,0):=r;rw [r];clear hb r;refine AK.exit rfl ?_;rcases f with _|⟨_|_,cap',J⟩
  ·have ho:out= []:=T
   subst ho;refine kW ?_;exact aR ⟨_,rfl,rfl⟩
  ·refine kW ?_
   refine AK.fz 1000001 rfl ?_;refine AK.weak (wN (L:= [(2,.lst .any 3 (ba out)),(3,.int .i64 0)]) (BL:= []) ⟨⟨_,rfl,.one (l6 _ 1000001 (out) cap' J rfl rfl)⟩,kI,trivial⟩ trivial rfl rfl trivial) ?_;exact aR ⟨_,rfl,rfl⟩
  ·refine kW ?_
   refine AK.fz 1000002 rfl ?_;refine AK.weak (wN (L:= [(2,.lst .any 3 (ba out)),(3,.int .i64 0)]) (BL:= []) ⟨⟨_,rfl,.one (l6 _ 1000002 (out) cap' J rfl rfl)⟩,kI,trivial⟩ trivial rfl rfl trivial) ?_;exact aR ⟨_,rfl,rfl⟩
theorem Il (s:Bs) (hl:s.length≤140737488355328):AC Tryz.prog 57 [.str (toB s)] (.tup [.lst .any 3 (ba (cN s).1),.int .i64 (cN s).2]):=by
 by_cases h:s.length≤65536
 ·exact FY s h
 ·have g:cN s=([],6):=by unfold cN;rw [if_pos (by omega)]
  rw [g];refine kE Tryz.func57 jy jz fun E i=> ?_
  refine kW ?_;refine kC (fun hb=> ?_) fun hb=> ?_
  ·refine kW ?_
   exact aR ⟨_,rfl,rfl⟩
  ·exfalso
   have: ¬(65536:Int)<(toB s).size:=by simpa using hb
   rw [ab] at this;omega
end
end Go.Proofs.YtbgflifmanjpjaaGreatDoor
