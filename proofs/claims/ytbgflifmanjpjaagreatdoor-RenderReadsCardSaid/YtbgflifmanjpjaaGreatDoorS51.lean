/- Part 51. -/
import Derived.Test.YtbgflifmanjpjaaGreatDoorS50
set_option linter.unusedSimpArgs false
set_option linter.unusedVariables false
namespace Go.Proofs.YtbgflifmanjpjaaGreatDoor
open Go.RowKit
def Oo (v x y:V) (k j:ByteArray):Option Bool→Fr×St
 |none=>(ar [(2,.ptr 2 0),(4,.ptr 4 0),(9,.lst .any 1 (aRz [k,j])),(10,.int .i64 2),(11,.int .i64 0)],⟨ag [(2,(vC (v)),false),(4,gZ,false)],fun _=>0⟩)
 |some true=>(ar [(2,.ptr 2 0),(4,.ptr 4 0),(9,.lst .any 1 (aRz [k,j])),(10,.int .i64 2),(11,.int .i64 1)],⟨ag [(2,(vC (x)),false),(4,gZ,false)],fun _=>0⟩)
 |some false=>(ar [(2,.ptr 2 0),(4,.ptr 4 0),(9,.lst .any 1 (aRz [k,j])),(10,.int .i64 2),(11,.int .i64 2)],⟨ag [(2,(vC (y)),false),(4,gZ,false)],fun _=>0⟩)
theorem FF (v x y:V) (k j:ByteArray) (P:v.ord) (g:x.ord) (hsz:v.size≤1000000000000) (p:x.size≤1000000000000) (r:y.size≤1000000000000) (h:aU k v.m=some x) (R:aU j x.m=some y):getA v y [k,j]:=by
 have I:=eu v k P hsz;have J:=eu x j g p;have T:=fy y r;rw [h] at I;rw [R] at J;refine kE Tryz.func218 yi yj fun E U=> ?_
 refine kW ?_;refine aJ (Oo v x y k j) (fun _=>True) (fun j=>match j with|none=>2|some true=>1|some false=>0) none trivial (wO ⟨kI,kI,kI,kI,kI,trivial⟩ ⟨kJ,kJ,trivial⟩ rfl rfl) fun i _=> ?_
 rcases i with _|_|_
 ·refine kW ?_
  refine kCt ?_;refine kW ?_;refine kQ [.c [.str k]] ?_;refine kW ?_;refine kP [.v (.tup [(vA (x)),.bool true])] ?_ ?_
  ·((repeat' apply aI)<;>first|exact kD|(intro C;refine ⟨?_,kG⟩;(repeat' apply aI)<;>first|exact kD|skip)|skip)
   all_goals exact I
  refine kW ?_;refine kCf ?_;refine kW ?_;exact AK.lp ⟨some true,trivial,wO ⟨kI,kI,kI,kI,kU,trivial⟩ ⟨kJ,kJ,trivial⟩ rfl rfl,by decide⟩
 ·refine kW ?_
  refine kCf ?_;refine AK.exit rfl ?_;refine kW ?_;refine kQ [.v (vA (y))] ?_;refine kW ?_;refine aR ⟨_,rfl,?_⟩;rfl
 ·refine kW ?_
  refine kCt ?_;refine kW ?_;refine kQ [.c [.str j]] ?_;refine kW ?_;refine kP [.v (.tup [(vA (y)),.bool true])] ?_ ?_
  ·((repeat' apply aI)<;>first|exact kD|(intro C;refine ⟨?_,kG⟩;(repeat' apply aI)<;>first|exact kD|skip)|skip)
   all_goals exact J
  refine kW ?_;refine kCf ?_;refine kW ?_;exact AK.lp ⟨some false,trivial,wO ⟨kI,kI,kI,kI,kU,trivial⟩ ⟨kJ,kJ,trivial⟩ rfl rfl,by decide⟩
theorem Iw (s:ByteArray):AC Tryz.prog 166 [(vA ((V.str s)))] (.str s):=by
 refine kE Tryz.func166 rJ rK fun E g=> ?_
 refine kW ?_;refine kCf ?_;refine kW ?_;refine kCt ?_;refine kW ?_;refine aR ⟨_,rfl,?_⟩;rfl
def dkV:ByteArray:=⟨#[86,97,108,117,101,115]⟩
def dkC:ByteArray:=⟨#[67,104,97,114,116]⟩
def dkN:ByteArray:=⟨#[78,97,109,101]⟩
def dkW:ByteArray:=⟨#[86,101,114,115,105,111,110]⟩
def dkR:ByteArray:=⟨#[82,101,108,101,97,115,101]⟩
def abV (nm ver:ByteArray):V:=bP [(dkN,V.str nm),(dkW,V.str ver)]
def Ix (nm ver:ByteArray) (v:V) (rel:ByteArray):V:=bP [(dkC,abV nm ver),(dkR,bP [(dkN,V.str rel)]),(dkV,v)]
theorem KL (nm ver:ByteArray):iq [(dkN,V.str nm),(dkW,V.str ver)]= [(dkN,V.str nm),(dkW,V.str ver)]:=kk
theorem Iy (rel:ByteArray):iq [(dkN,V.str rel)]= [(dkN,V.str rel)]:=kk
theorem Iz (a v r:V):iq [(dkV,v),(dkC,a),(dkR,r)]= [(dkC,a),(dkR,r),(dkV,v)]:=kk
theorem xw (s:ByteArray):(V.str s).size=1:=by rw [V.size_eq];rfl
theorem N4 (nm ver:ByteArray) (i v:V) (p:Fl) (l:List SN) (rel:ByteArray) (hv:v.size≤1000000):MS Tryz.prog 11 [(2000000,chR nm ver i p l)] [.np 2000000 0,(vA (v)),.str rel] [(2000000,chR nm ver i p l)] ((vA ((Ix nm ver v rel)))):=by
 have s1:=ep nm;have s2:=ep ver;have s3:=ep rel;have j:=fc [(dkN,V.str nm),(dkW,V.str ver)] (by simp only [aA,xw];decide);have r:=fc [(dkN,V.str rel)] (by simp only [aA,xw];decide);have C:=fc [(dkV,v),(dkC,abV nm ver),(dkR,bP [(dkN,V.str rel)])] (by simp only [aA,abV,bX,xw];omega);rw [KL] at j;rw [Iy] at r;rw [Iz] at C;obtain ⟨I,J,P,vs,R,T⟩:=v;refine MS.enter Tryz.func11 t8 ua (by rfl) (by rfl) fun E hE=> ?_
 show AK _ _ _ [.c kr] _ _;rw [kr];refine kW ?_;refine kP [] ?_ ?_
 ·((repeat' apply aI)<;>first|exact kD|(intro U;refine ⟨?_,kG⟩;(repeat' apply aI)<;>first|exact kD|skip)|skip)
  all_goals exact fun g o=>AR false g o
 refine kCf ?_;refine kW ?_;refine kQ [.v ((vA ((V.str nm)))),.v ((vA ((V.str ver)))),.v ((vA ((abV nm ver))))] ?_;refine kW ?_;refine kQ [.v ((vA ((V.str rel)))),.v ((vA ((bP [(dkN,V.str rel)])))),.v ((vA ((Ix nm ver (.mk I J P vs R T) rel))))] ?_;refine kW ?_;exact aR ⟨⟨_,rfl,rfl⟩,⟨_,rfl,rfl⟩,trivial⟩
def Oq (nm ver:ByteArray) (g:V) (p:Fl) (l:List SN) (a b:Ob):Bool→Fr×St
 |true=>(ar [(12,.lst .nil 9 []),(32,.lst .any 2 [[.str p.1,.str (dD l)]]),(33,.int .i64 1),(34,.int .i64 0)],⟨ag [(2000000,chR nm ver g p l,false)],fun _=>0⟩)
 |false=>(ar [(12,.lst .any 9 (bF [a,b])),(32,.lst .any 2 [[.str p.1,.str (dD l)]]),(33,.int .i64 1),(34,.int .i64 1)],⟨ag [(2000000,chR nm ver g p l,false)],fun _=>0⟩)
theorem DQ (nm ver:ByteArray) (g v:V) (p:Fl) (l:List SN) (rel:ByteArray) (a b:Ob) (i:v.size≤1000000) (r:AC Tryz.prog 19 [.str p.1] (.bool false)) (hl: ∀y∈l,y.Ok (Ix nm ver v rel)) (C:dG l≤10000) (hn:l≠ []) (h:(dD l).size≤65536) (hlen:l.length≤1000000)
  (I:jI (dD l)=([a,b],0)) (J:wy (eI a.k) (eI b.k)=1):
  MTK Tryz.prog 63 [] [(2000000,chR nm ver g p l)] [.np 2000000 0,(vA (v)),.str rel] [] [(2000000,chR nm ver g p l)] (.tup [.lst .any 9 (bF [b,a]),.str ⟨#[]⟩,.int .i64 0]):=by
 have P:=N4 nm ver g v p l rel i;have R:=C6 nm ver g (Ix nm ver v rel) p l r hl C hn h hlen;have T:=zy (dD l) (by omega);have hA:=zt (dD l);rw [I] at T hA;have z1:=(hA a (by simp)).2.1;have z2:=(hA b (by simp)).2.1;have hS:=Ly a b J (by omega) (by omega);refine MTK.enter Tryz.func63 wz wA (by rfl) (by rfl) fun E hE=> ?_
 show AK _ _ _ [.c lX] _ _;rw [lX];refine kW ?_;refine kP [.s [2000000] [(2000000,chR nm ver g p l)] ((vA ((Ix nm ver v rel)))),.k [2000000] [] [(2000000,chR nm ver g p l)] [] (.tup [.lst .any 2 [[.str p.1,.str (dD l)]],.str ⟨#[]⟩,.int .i64 0])] ?_ ?_
 ·((repeat' apply aI)<;>first|exact kD|(intro U;refine ⟨?_,kG⟩;(repeat' apply aI)<;>first|exact kD|skip)|skip)
  all_goals first|exact P|exact R|skip
 refine kW ?_;refine kCf ?_;refine kW ?_;refine aJ (Oq nm ver g p l a b) (fun _=>True) (fun j=>match j with|true=>1|false=>0) true trivial (Weak.introZ ⟨kI,kI,kI,kI,trivial⟩ ⟨kJ,trivial⟩ rfl ⟨rfl,trivial⟩) fun j _=> ?_
 cases j with
 |true=>
  refine kW ?_;refine kCt ?_;refine kW ?_;refine kQ [.c [.str p.1,.str (dD l)]] ?_;refine kW ?_;refine kQ [.v (.tup [.lst .any 9 (bF [a,b]),.int .i64 0])] ?_;refine kW ?_;refine kCf ?_;refine kW ?_;refine kP [] ?_ ?_
  ·(repeat' apply aI)
   all_goals first|exact rfl|exact True.intro|skip
   ·show (0+2)*136≤140737488355328;decide
   ·show 0+2≤140737488355328;decide
  refine kW ?_;refine kCf ?_;refine kW ?_;exact AK.lp ⟨false,trivial,Weak.introZ ⟨⟨_,rfl,.one (.any _ _ _)⟩,kI,kI,kU,trivial⟩ ⟨kJ,trivial⟩ rfl ⟨rfl,trivial⟩,by decide⟩
 |false=>
  refine kW ?_;refine kCf ?_;refine AK.exit rfl ?_;refine kW ?_;refine kQ [.v (.tup [.lst .any 9 (bF [b,a]),.int .i64 0])] ?_;refine kW ?_;exact aR ⟨⟨_,rfl,rfl⟩,⟨_,rfl,rfl⟩,trivial⟩
abbrev rrU:ByteArray:=⟨#[107,105,110,100,58,32,68,101,112,108,111,121,109,101,110,116,10,109,101,116,97,100,97,116,97,58,32,123,110,97,109,101,58,32,123,123,32,46,82,101,108,101,97,115,101,46,78,97,109,101,32,125,125,125,10,45,45,45,10,107,105,110,100,58,32,83,101,114,118,105,99,101,10,109,101,116,97,100,97,116,97,58,32,123,110,97,109,101,58,32,98,125,10]⟩
abbrev rrA:ByteArray:=⟨#[107,105,110,100,58,32,68,101,112,108,111,121,109,101,110,116,10,109,101,116,97,100,97,116,97,58,32,123,110,97,109,101,58,32]⟩
abbrev rrB:ByteArray:=⟨#[125,10,45,45,45,10,107,105,110,100,58,32,83,101,114,118,105,99,101,10,109,101,116,97,100,97,116,97,58,32,123,110,97,109,101,58,32,98,125,10]⟩
abbrev rrR:ByteArray:=⟨#[97]⟩
abbrev rrF:List Fl:= [(awA,awB),(awT,rrU)]
abbrev rrN:List ND:= [textN rrA,outN [dkR,dkN],textN rrB]
theorem Nr:Fs rrF=(⟨awWeb,awV1,bP [],[((awT,rrU),rrN)],[]⟩,⟨#[]⟩,0):=kk
abbrev rrS:List SN:= [.tx rrA,.ou [dkR,dkN] (V.str rrR) rrR,.tx rrB]
abbrev rrD:V:=Ix awWeb awV1 (bP []) rrR
def Ns (r:List Ob×Int):Option (Ob×Ob):=match r with
 |([a,b],0)=>some (a,b)
 |_=>none
theorem IA {r:List Ob×Int} {a b:Ob} (h:Ns r=some (a,b)):r=([a,b],0):=by
 unfold Ns at h;split at h
 ·cases h;rfl
 ·cases h
theorem L9:(Ns (jI (dD rrS))).map (fun p=>(p.1.k,p.1.n,p.2.k,p.2.s,p.2.n))=some (⟨#[68,101,112,108,111,121,109,101,110,116]⟩,rrR,⟨#[83,101,114,118,105,99,101]⟩,⟨#[100,101,102,97,117,108,116]⟩,⟨#[98]⟩):=kk
theorem N5: ∀y∈rrS,y.Ok rrD:=by
 have g:(bP [(dkN,V.str rrR)]).ord:=(V.check_good (show (bP [(dkN,V.str rrR)]).checkC=0 by kernel_rfl)).1.ord;have i:rrD.ord:=(V.check_good (show rrD.checkC=0 by kernel_rfl)).1.ord;intro y hy;simp only [List.mem_cons,List.not_mem_nil,or_false] at hy;rcases hy with rfl|rfl|rfl
 ·trivial
 ·exact ⟨FF _ (bP [(dkN,V.str rrR)]) _ dkR dkN i g (by decide+kernel) (by decide+kernel) (by decide+kernel) (by kernel_rfl) (by kernel_rfl),Iw _⟩
 ·trivial
set_option maxHeartbeats 2000000 in
theorem IB:AC Tryz.prog 29 [] (.bool true):=by
 obtain ⟨⟨a,b⟩,J,j⟩:=Option.map_eq_some_iff.1 L9;have P:=IA J;simp only [Prod.mk.injEq] at j;obtain ⟨R,f2,r,T,U⟩:=j
 have i:=KD rrF (by decide) fun _ p C=>by
  simp only [List.mem_cons,List.not_mem_nil,or_false] at C;rcases C with rfl|rfl<;>decide
 rw [Nr] at i;have i:=(i.ren GE Ip KE).full1;have hP:AC Tryz.prog 19 [.str awT] (.bool false):=Ik awT (by decide);have hR:=(DQ awWeb awV1 (bP []) (bP []) (awT,rrU) rrS rrR a b (by decide+kernel) hP N5 (by decide) (by decide) (by decide+kernel) (by decide) P (by rw [R,r];decide+kernel)).ren GF Iq KF;have I:=DO false b.k b.s b.n ⟨#[83,101,114,118,105,99,101]⟩ ⟨#[100,101,102,97,117,108,116]⟩ ⟨#[98]⟩;refine kE Tryz.func29 rA rB fun E hE=> ?_
 refine kW ?_;refine kP [.k [] [] [(1000001,chU awWeb awV1 (bP []) [((awT,rrU),rrN)] (.np 1900101 0)),(1900101,[mcA (bc [])])] qKs (.tup [.np 1000001 0,.str ⟨#[]⟩,.int .i64 0])] ?_ ?_
 ·((repeat' apply aI)<;>first|exact kD|(intro g;refine ⟨?_,kG⟩;(repeat' apply aI)<;>first|exact kD|skip)|skip)
  all_goals exact i
 refine kW ?_;refine kP [] ?_ ?_
 ·((repeat' apply aI)<;>first|exact kD|(intro g;refine ⟨?_,kG⟩;(repeat' apply aI)<;>first|exact kD|skip)|skip)
  all_goals exact AR false
 refine kCf ?_;refine kW ?_;refine AK.weak (Weak.introZ (L:= [(1,.np 1000001 0)]) (BL:= [(1000001,chR awWeb awV1 (bP []) (awT,rrU) rrS,false)]) ⟨kI,trivial⟩ ⟨⟨_,rfl,.refl _,.refl _,.refl _,.refl _,.refl _,.refl _,.refl _,.refl _,.any _ _ _,.any _ _ _,.top _ rfl,trivial⟩,trivial⟩ rfl ⟨rfl,trivial⟩) ?_;refine kW ?_;refine kP [.k [1000001] [] [(1000001,chR awWeb awV1 (bP []) (awT,rrU) rrS)] [] (.tup [.lst .any 9 (bF [b,a]),.str ⟨#[]⟩,.int .i64 0])] ?_ ?_
 ·((repeat' apply aI)<;>first|exact kD|(intro g;refine ⟨?_,kG⟩;(repeat' apply aI)<;>first|exact kD|skip)|skip)
  all_goals exact hR
 refine kW ?_;refine kP [.c (obC b),.c (obC a)] ?_ ?_
 ·((repeat' apply aI)<;>first|exact kD|(intro g;refine ⟨?_,kG⟩;(repeat' apply aI)<;>first|exact kD|skip)|skip)
  all_goals first|exact I|exact fun _=>I|skip
 refine kW ?_;refine aR ⟨_,rfl,?_⟩;rw [f2,r,T,U];rfl
theorem yw (s:ByteArray) (r:s.size≤140737488355328):AC Tryz.prog 6 [.str s] (.bool true):=by
 have hA:=IB;refine kE Tryz.func6 kg kh fun E C=> ?_
 refine kW ?_;refine kC (fun hb=> ?_) fun hb=> ?_
 ·refine kW ?_
  refine kQ [.v (.bool true)] ?_;refine kW ?_;refine aR ⟨_,rfl,?_⟩;rfl
 have I:s.size≤4000:=by have:decide ((s.size:Int)>4000)=false:=hb;have:=gB4 this;omega
 have J:=zy s (by omega);have P:=FE s (by omega);have hn:=Is s;have g:=zt s;have i:=DP (jI s).1 (by omega) (fun o j=>by have:=(g o j).2.1;omega);generalize jI s=O at*;obtain ⟨os,e⟩:=O;refine kW ?_;refine kQ [.v (.tup [.lst .any 9 (bF os),.int .i64 e])] ?_;refine kW ?_;refine kQ [.v (.tup [.lst .any 9 (bF os),.int .i64 e])] ?_;refine kW ?_;refine kP [.v (.bool true),.v (.bool true)] ?_ ?_
 ·((repeat' apply aI)<;>first|exact kD|(intro p;refine ⟨?_,kG⟩;(repeat' apply aI)<;>first|exact kD|skip)|skip)
  all_goals first|exact hA|exact i|exact fun _=>i|skip
 refine kW ?_;refine aR ⟨_,rfl,?_⟩;simp;rfl
end Go.Proofs.YtbgflifmanjpjaaGreatDoor
