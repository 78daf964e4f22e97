/- Part 46. -/
import Derived.Test.YtbgflifmanjpjaaGreatDoorS45
set_option linter.unusedSimpArgs false
set_option linter.unusedVariables false
namespace Go.Proofs.YtbgflifmanjpjaaGreatDoor
section
open Go.RowKit
theorem je: ∀(n:Nat) (k:NM) (m:MK) (N:Nat),m.at_≤m.l.length→(∀t∈m.l,t.s.length≤N)→(ndF n k m).2.2.1.length≤N
 |0,k,m,N,_,_=>gB8 _
 |n+1,.nodes out,m,N,r,h=>by
  rw [ndF];cases p:m.l[m.at_]? with
  |none=>exact gB8 _
  |some t=>
   have ht:=h t (gA2 p);have i:=(gA0 p).1;dsimp only;have g:=fun s=>(⟨m.l,m.at_+1,m.deep,m.bad⟩:MK).pipe_at s ⟨MK.pipe_l _ s,i⟩
   split
   ·exact je n _ _ N i h
   ·split
    ·show (bZ t.s).length≤N
     unfold bZ;rw [gA6];omega
    ·split
     ·have j:=eu n (.block (nmL t.s) (bZ t.s)) ⟨m.l,m.at_+1,m.deep,m.bad⟩ i
      exact je n _ _ N (by rw [j.1];exact j.2.2.1) (by rw [j.1];exact h)
     ·split
      ·exact je n _ _ N (by rw [(g _).1];exact (g _).2.2) (by rw [(g _).1];exact h)
      ·exact je n _ _ N (by rw [(g _).1];exact (g _).2.2) (by rw [(g _).1];exact h)
 |n+1,.block w s,m,N,r,h=>by
  rw [ndF];dsimp only;split
  ·exact gB8 _
  ·split
   ·exact gB8 _
   ·split<;>exact gB8 _
theorem L1 (a b c:Bs):((decide (toB a=⟨#[101,108,115,101]⟩)&&decide (toB b=⟨#[105,102]⟩))&&decide (toB c=⟨#[105,102]⟩))=decide (a=iY∧b=wIf∧c=wIf):=by
 rw [show decide (toB a=⟨#[101,108,115,101]⟩)=decide (a=iY) from tb _ iY,show decide (toB b=⟨#[105,102]⟩)=decide (b=wIf) from tb _ wIf,show decide (toB c=⟨#[105,102]⟩)=decide (c=wIf) from tb _ wIf];by_cases g:a=iY<;>by_cases i:b=wIf<;>by_cases j:c=wIf<;>simp [g,i,j]
theorem L2 (a b c:Bs):((decide (toB a=⟨#[101,108,115,101]⟩)&& !decide (toB b=⟨#[100,101,102,105,110,101]⟩))&&decide (toB c=⟨#[]⟩))=decide (a=iY∧b≠sZ∧c= []):=by
 rw [show decide (toB a=⟨#[101,108,115,101]⟩)=decide (a=iY) from tb _ iY,show decide (toB b=⟨#[100,101,102,105,110,101]⟩)=decide (b=sZ) from tb _ sZ,show decide (toB c=⟨#[]⟩)=decide (c= []) from tb _ []];by_cases g:a=iY<;>by_cases i:b=sZ<;>by_cases j:c= []<;>simp [g,i,j]
theorem L3 (a c:Bs):(!decide (toB a=⟨#[101,110,100]⟩)|| !decide (toB c=⟨#[]⟩))=decide (a≠qU∨c≠ []):=by
 rw [show decide (toB a=⟨#[101,110,100]⟩)=decide (a=qU) from tb _ qU,show decide (toB c=⟨#[]⟩)=decide (c= []) from tb _ []];by_cases g:a=qU<;>by_cases i:c= []<;>simp [g,i]
theorem Gc (m:MK) (w s:Bs):(eH m w s).1.els= []:=by
 unfold eH;split
 ·rfl
 ·split
  ·rfl
  ·split<;>rfl
def MK.up (m:MK):MK:=⟨m.l,m.at_,IntKind.i64.wrap (m.deep-1),m.bad⟩
def MK.endd (m:MK) (a c:Bs):MK:=(if a≠qU∨tlw c≠ [] then m.fail 21 else m).up
theorem IC (n:Nat) (hN:QN n) (hB:QB n):QB (n+1):=fun m w s nd st re M hTK hs hn g=>by
 obtain ⟨l,at_,dp,bd⟩:=m;obtain ⟨hl1,hl2,I⟩:=hTK;dsimp only at hl1 hl2 I hn;refine MS.enter Tryz.func110 j4 j5 (by rfl) (by rfl) fun E hE=> ?_
 show AK _ _ _ [.c dA] _ _;rw [dA];rw [ndF] at g;dsimp only at g;refine kW ?_;generalize IntKind.i64.wrap (dp+1)=d at g⊢;refine kC (fun hb=> ?_) fun hb=> ?_
 ·have hd:16<d:=by simpa using hb
  clear hb;rw [if_pos hd] at g;cases g;have hfl:=pF ⟨l,at_,d,bd⟩ 5;refine kW ?_;refine kQ [.s [2000000] (mnS ((⟨l,at_,d,bd⟩:MK).fail 5)) (.tup [])] ?_;refine kW ?_;exact aR ⟨⟨_,rfl,rfl⟩,⟨_,rfl,rfl⟩,trivial⟩
 have hd: ¬16<d:=by simpa using hb
 clear hb;rw [if_neg hd] at g;have hhd:=JZ ⟨l,at_,d,bd⟩ w s hs;have hha:=BN ⟨l,at_,d,bd⟩ w s hl2;have hel:=Gc ⟨l,at_,d,bd⟩ w s;generalize eH ⟨l,at_,d,bd⟩ w s=h at g hhd hha hel;obtain ⟨⟨k,tt,x,key,nm,b1,b2⟩,⟨l1,a1,d1,e1⟩⟩:=h;obtain rfl:b2= []:=hel;obtain ⟨g1,g2,g3⟩:=hha;dsimp only at g1 g2 g3 hhd g;subst g1;rw [ND.row_eq] at hhd;rcases hnd:ndF n (.nodes []) ⟨l1,a1,d1,e1⟩ with ⟨body,stop,rest,m2⟩
 rw [hnd] at g;have j:=eu n (.nodes []) ⟨l1,a1,d1,e1⟩ g3;have hre:=je n (.nodes []) ⟨l1,a1,d1,e1⟩ 1000000 g3 I;rw [hnd] at j hre;have hno:=hN ⟨l1,a1,d1,e1⟩ body stop rest m2 ⟨hl1,g3,I⟩ (by show 3*(l1.length-a1)+2≤n;omega) hnd;obtain ⟨f1,f2,f3,f4,_⟩:=j;have f6:=(f4 _ rfl).2;clear f4;obtain ⟨C,a2,P,R⟩:=m2;dsimp only at f1 f2 f3 f6 g hre;subst f1;have htl:=BQ rest;have htlen:=cu rest;have hwd:=ER (tlw rest) (by omega);refine kW ?_;refine kQ [.s [2000000] (mnS ⟨C,a1,d1,e1⟩) (.agg (ndV k tt x key nm b1 []))] ?_;refine kW ?_;refine kQ [.s [2000000] (mnS ⟨C,a2,P,R⟩) (.tup [.lst .any 16 (aU body),.str (toB stop),.str (toB rest)])] ?_;refine kW ?_;refine kQ [.v (.str (toB (tlw rest))),.v (.tup [.str (toB (nmL (tlw rest))),.str (toB (bZ (tlw rest)))])] ?_;refine kW ?_;refine AK.weak (wN (row:=fun _=>0) (L:= [(0,.np 2000000 0),(1,.str (toB w)),(6,.ptr 6 0),(7,.ptr 7 0),(9,.str (toB stop)),(10,.str (toB rest)),(11,.str (toB (nmL (tlw rest)))),(12,.str (toB (bZ (tlw rest))))]) (BL:= [(6,ndZ 0 ⟨#[]⟩ ⟨#[]⟩,false),(7,ndV k tt x key nm body [],false),(2000000,mnC ⟨C,a2,P,R⟩,false)]) ⟨kI,kI,kI,kI,kI,kI,kI,kI,trivial⟩ ⟨kJ,kJ,kJ,trivial⟩ rfl rfl ⟨rfl,trivial⟩) ?_;have hn2:3*(C.length-a2)+2≤n:=by omega
 have T:TK ⟨C,a2,P,R⟩:=⟨hl1,f3,I⟩
 refine kQ [] ?_;rw [L1];refine kC (fun hb=> ?_) fun hb=> ?_
 ·have U:=gB3 hb
  clear hb;rw [if_pos U] at g;have f6:=f6 (by rw [U.1];decide);rcases hbk:ndF n (.block wIf (bZ (tlw rest))) ⟨C,a2,P,R⟩ with ⟨bl,st3,re3,m3⟩
  rw [hbk] at g;have j:=eu n (.block wIf (bZ (tlw rest))) ⟨C,a2,P,R⟩ f3;rw [hbk] at j;have f5:=j.2.2.2.2 _ _ rfl (by omega);dsimp only at f5 g;obtain ⟨nd3,rfl⟩:=List.length_eq_one_iff.1 f5;have hBk:=hB ⟨C,a2,P,R⟩ wIf (bZ (tlw rest)) nd3 st3 re3 m3 T (by unfold bZ;rw [gA6];omega) (by show 3*(C.length-a2)+3≤n;omega) hbk;obtain ⟨k3,t3,x3,y3,n3,bb,ll⟩:=nd3;have er:aU [.mk k3 t3 x3 y3 n3 bb ll]= [ndV k3 t3 x3 y3 n3 bb ll]:=(lM [] k3 t3 x3 y3 n3 bb ll).symm;rw [ND.row_eq] at hBk;obtain ⟨l3,a3,d3,e3⟩:=m3;cases g;rw [ND.row_eq,er];refine kW ?_;refine kQ [.s [2000000] (mnS ⟨l3,a3,d3,e3⟩) (.agg (ndV k3 t3 x3 y3 n3 bb ll))] ?_;refine kW ?_;exact aR ⟨⟨_,rfl,rfl⟩,⟨_,rfl,rfl⟩,trivial⟩
 have U:=gB4 hb;clear hb;rw [if_neg U] at g;refine kW ?_;refine kQ [.v (.str (toB (tlw rest)))] ?_;rw [L2];refine AK.cutK (fun i:Bs×Bs×List ND×MK=>i.2.1.length≤1000000∧nd= .mk k tt x key nm body i.2.2.1∧M=i.2.2.2.endd i.1 i.2.1) (fun i=>ax [(0,.np 2000000 0),(6,.ptr 6 0),(7,.ptr 7 0),(9,.str (toB i.1)),(10,.str (toB i.2.1))]) (fun i=>⟨ah [(6,ndZ 0 ⟨#[]⟩ ⟨#[]⟩,false),(7,ndV k tt x key nm body i.2.2.1,false),(2000000,mnC i.2.2.2,false)],fun _=>0⟩) ?_ fun i hK=> ?_
 ·refine kC (fun hb=> ?_) fun hb=> ?_
  ·have hc2:=gB3 hb
   clear hb;rw [if_pos hc2] at g;rcases J:ndF n (.nodes []) ⟨C,a2,P,R⟩ with ⟨els,p,r,m3⟩
   rw [J] at g;have hre2:=je n (.nodes []) ⟨C,a2,P,R⟩ 1000000 f3 I;rw [J] at hre2;have hno2:=hN ⟨C,a2,P,R⟩ els p r m3 T hn2 J;obtain ⟨l3,a3,d3,e3⟩:=m3;dsimp only at g;cases g;refine kW ?_;refine kQ [.s [2000000] (mnS ⟨l3,a3,d3,e3⟩) (.tup [.lst .any 16 (aU els),.str (toB p),.str (toB r)])] ?_;exact cE ⟨(p,r,els,⟨l3,a3,d3,e3⟩),⟨hre2,rfl,rfl⟩,wN ⟨kI,kI,kI,kI,kI,trivial⟩ ⟨kJ,kJ,kJ,trivial⟩ rfl rfl ⟨rfl,trivial⟩⟩
  ·have hc2:=gB4 hb
   clear hb;rw [if_neg hc2] at g;cases g;refine kW ?_;exact cE ⟨(stop,rest,[],⟨C,a2,P,R⟩),⟨hre,rfl,rfl⟩,wN ⟨kI,kI,kI,kI,kI,trivial⟩ ⟨kJ,kJ,kJ,trivial⟩ rfl rfl ⟨rfl,trivial⟩⟩
 clear g htl hwd;obtain ⟨sx,rx,els,⟨l3,a3,d3,e3⟩⟩:=i;obtain ⟨k1,k2,k3⟩:=hK;dsimp only at k1 k2 k3⊢;have htl:=BQ rx;have hfl:=pF ⟨l3,a3,d3,e3⟩ 21;subst k2 k3;rw [ND.row_eq];unfold MK.endd;refine kW ?_;refine kQ [.v (.str (toB (tlw rx)))] ?_;rw [L3];refine kC (fun hb=> ?_) fun hb=> ?_
 ·have U:=gB3 hb
  clear hb;rw [if_pos U];refine kW ?_;refine kQ [.s [2000000] (mnS ((⟨l3,a3,d3,e3⟩:MK).fail 21)) (.tup [])] ?_;refine kW ?_;exact aR ⟨⟨_,rfl,rfl⟩,⟨_,rfl,rfl⟩,trivial⟩
 ·have U:=gB4 hb
  clear hb;rw [if_neg U];refine kW ?_;exact aR ⟨⟨_,rfl,rfl⟩,⟨_,rfl,rfl⟩,trivial⟩
theorem mj: ∀n k,k≤n→QN k∧QB k
 |0,k,g=>by
  obtain rfl:k=0:=by omega
  exact ⟨fun m o s r i _ h _=>absurd h (by omega),fun m w s nd st re i _ _ h _=>absurd h (by omega)⟩
 |n+1,k,g=>by
  by_cases h:k≤n
  ·exact mj n k h
  ·obtain rfl:k=n+1:=by omega
   have hn:=mj n n (gA4 _);exact ⟨J0 n fun k g=>(mj n k g).2,IC n hn.1 hn.2⟩
theorem B3 {l:List Tok} {t x:Tok} (h:x∈bo l t):x∈l∨x=t:=by
 unfold bo at h;split at h
 ·exact .inl h
 ·rcases gB5 h with h|h
  ·exact .inl h
  ·exact .inr (gB1 h)
theorem Gd (i:Bs):(cn i).length≤i.length:=gB7 (EI _) (BZ i)
theorem vQ (s:Bs): ∀(n a:Nat) (cut:Bool) (out l:List Tok),a≤s.length→out.length≤a→(∀t∈out,t.s.length≤s.length)→oh s n a cut out=some l→l.length≤s.length+1∧ ∀t∈l,t.s.length≤s.length
 |0,_,_,_,_,_,_,_,h=>by cases h
 |n+1,a,cut,out,l,J,P,ht,h=>by
  unfold oh at h;split at h
  ·cases h
   exact ⟨by omega,ht⟩
  ·split at h
   ·cases h
    refine ⟨gB7 (vJ _ _).2 (by omega),fun t g=> ?_⟩;rcases B3 g with g|rfl
    ·exact ht t g
    ·refine gB7 (qS _ _) ?_
     rw [gA6];omega
   ·dsimp only at h
    split at h
    ·cases h
    ·rename_i e p
     have j:=vI p;have r:=(vJ out ⟨false,if rL ((s.take e).drop ((Lib.index (s.drop a) [123,123]).toNat+a+2))=true then trw (aX cut ((s.drop a).take (Lib.index (s.drop a) [123,123]).toNat)) else aX cut ((s.drop a).take (Lib.index (s.drop a) [123,123]).toNat),a+(((s.drop a).take (Lib.index (s.drop a) [123,123]).toNat).length-(aX cut ((s.drop a).take (Lib.index (s.drop a) [123,123]).toNat)).length)⟩).2
     have i: ∀t∈bo out ⟨false,if rL ((s.take e).drop ((Lib.index (s.drop a) [123,123]).toNat+a+2))=true then trw (aX cut ((s.drop a).take (Lib.index (s.drop a) [123,123]).toNat)) else aX cut ((s.drop a).take (Lib.index (s.drop a) [123,123]).toNat),a+(((s.drop a).take (Lib.index (s.drop a) [123,123]).toNat).length-(aX cut ((s.drop a).take (Lib.index (s.drop a) [123,123]).toNat)).length)⟩,t.s.length≤s.length:=fun t g=>by
      rcases B3 g with g|rfl
      ·exact ht t g
      ·have C:=qS cut ((s.drop a).take (Lib.index (s.drop a) [123,123]).toNat)
       rw [gA7,gA6] at C;dsimp only;split
       ·refine gB7 (JJ _) (by omega)
       ·omega
     have I:=Gd ((s.take e).drop ((Lib.index (s.drop a) [123,123]).toNat+a+2));rw [gA6,gA7] at I;refine vQ s n _ _ _ l j.2 ?_ ?_ h
     ·split
      ·omega
      ·rw [gA5,List.length_singleton]
       omega
     ·intro t g
      split at g
      ·exact i t g
      ·rcases gB5 g with g|g
       ·exact i t g
       ·rw [gB1 g]
        show (cn _).length≤_;omega
theorem ov (s:Bs):(cG s).1.length≤65537∧ ∀t∈(cG s).1,t.s.length≤65536:=by
 unfold cG;split
 ·exact ⟨gB8 _,fun t h=>by cases h⟩
 ·cases h:oh s (s.length+1) 0 false [] with
  |none=>exact ⟨gB8 _,fun t h=>by cases h⟩
  |some l=>
   have g:=vQ s _ _ _ _ l (gB8 _) (gA4 _) (fun t h=>by cases h) h;exact ⟨gB7 g.1 (by omega),fun t ht=>gB7 (g.2 t ht) (by omega)⟩
theorem L4 (a:Bs):(!decide (toB a=⟨#[]⟩))=decide (a≠ []):=Kj a
theorem EW (s:Bs) (hl:s.length≤140737488355328):AC Tryz.prog 25 [.str (toB s)] (.tup [.lst .any 16 (aU (bL s).1),.int .i64 (bL s).2]):=by
 have C:=IA s hl;have i:=ov s;unfold bL;generalize cG s=q at C i⊢;obtain ⟨l,e⟩:=q;obtain ⟨U,f2⟩:=i;dsimp only at C U f2⊢;refine kE Tryz.func25 rc rd fun E hE=> ?_
 refine kW ?_;refine kQ [.v (.tup [.lst .any 3 (a6 l),.int .i64 e])] ?_;refine kW ?_;refine kC (fun hb=> ?_) fun hb=> ?_
 ·have J:e≠0:=by simpa using hb
  clear hb;rw [if_pos J];refine kW ?_;refine aR ⟨_,rfl,?_⟩;rfl
 have J:e=0:=by simpa using hb
 clear hb;subst J;rw [if_neg (show¬(0:Int)≠0 by simp)];rcases P:ndF (3*l.length+3) (.nodes []) ⟨l,0,0,0⟩ with ⟨out,stop,rest,⟨g,I,j,p⟩⟩
 have hM:=((mj _ _ (gA4 _)).1 ⟨l,0,0,0⟩ out stop rest ⟨g,I,j,p⟩ ⟨by show l.length≤_;omega,gB8 _,fun t ht=>gB7 (f2 t ht) (by omega)⟩ (by show 3*(l.length-0)+2≤3*l.length+3;omega) P).ren (swY 2000000 20) bp (bM (by rfl));have R:=(pF ⟨g,I,j,p⟩ 21).ren (swY 2000000 20) bp (bM (by rfl));dsimp only;refine kW ?_;refine kQ [.s [20] [(20,mnC ⟨g,I,j,p⟩)] (.tup [.lst .any 16 (aU out),.str (toB stop),.str (toB rest)])] ?_;refine kW ?_;rw [L4];by_cases r:p=0
 ·subst r
  refine kC (fun hb=> ?_) fun hb=> ?_
  ·have T:stop≠ []:=gB3 hb
   clear hb;rw [if_pos ⟨T,rfl⟩];refine kW ?_;refine kQ [.s [20] [(20,mnC ⟨g,g.length,j,21⟩)] (.tup [])] ?_;refine kW ?_;refine kCt ?_;refine kW ?_;refine aR ⟨_,rfl,?_⟩;rfl
  ·have T: ¬stop≠ []:=gB4 hb
   clear hb;rw [if_neg (fun h=>T h.1),if_neg (show¬(0:Int)≠0 by simp)];refine kW ?_;refine kCf ?_;refine kW ?_;refine aR ⟨_,rfl,?_⟩;rfl
 ·have e:(⟨g,I,j,p⟩:MK).fail 21=⟨g,g.length,j,p⟩:=by unfold MK.fail;rw [if_neg r]
  rw [e] at R;rw [if_neg (fun h=>r h.2),if_pos r];refine kC (fun hb=> ?_) fun hb=> ?_
  ·clear hb
   refine kW ?_;refine kQ [.s [20] [(20,mnC ⟨g,g.length,j,p⟩)] (.tup [])] ?_;refine kW ?_;refine kCt ?_ (by rw [decide_eq_false r];rfl);refine kW ?_;refine aR ⟨_,rfl,?_⟩;rfl
  ·clear hb
   refine kW ?_;refine kCt ?_ (by rw [decide_eq_false r];rfl);refine kW ?_;refine aR ⟨_,rfl,?_⟩;rfl
end
section
open Go.RowKit Go.MapKept
open Go.ChangeMaps (setBlock)
section
variable {P:Program} {mu:List Nat} {E:Env} {G G' :Gho} {fr fr' :Fr} {st st' :St} {a a0:Act} {w w0:World} {Q:Exit→Fr→St→Prop} {k:List AItem}
def MQ0 (P:Program) (E:Env) (Q:Exit→Fr→St→Prop) (k:List AItem) (g:Nat):Exit→Fr→St→Prop
 | .exit i=>fun f s=>i=g∧AK P E Q k f s
 |_=>fun _ _=>False
theorem AK.mrange0 {l1 pre post:List GI} {b:ACode} {T U d1:Nat} {t:TypeId} {x0 x1:Opd} (rs:List RS) {rs' :List RS} {fr1:Fr} {st1:St} {p1:Prop} (J:Nat→Fr×St) (hp1:p1)
  (h0: ∀r,Weak (aJz fr1 U (itA r)) st1 (J r).1 (J r).2) (hJ: ∀r,x1.ev (J r).1=some (itA r))
  (hend: ∀r,∃rs rs' f2 s2 p2,iq P post rs (aJz (J r).1 d1 (.tup [.bool false])) (J r).2=some (rs',f2,s2,p2)∧p2∧AK P E (MQ0 P E Q k T) [.c b] f2 s2)
  (hl1:pD l1=some (pre,t,U,x0):=by rfl) (hs:iq P pre rs fr st=some (rs',fr1,st1,p1):=by rfl) (hx0:x0.ev fr1=some (.raw (.map none)):=by rfl):
  AK P E Q (.c (.seq (.reg l1) (.block T (.loop (.seq (.reg (⟨none,.nxt d1 x1⟩::post)) b))))::k) fr st:=by
 intro hd mu c G ac w hc _ hC;simp only [ea,gA9] at hd;obtain ⟨hd1,hd2,hdb⟩:=hd;obtain ⟨y,z,rfl,hy,hz⟩:=jY hc;have p:=jZ hl1;obtain ⟨id1,ops1,rfl,hops1⟩:=gB hy (by rw [p];simp [GI.iter]);obtain ⟨z1,rfl,hz1⟩:=pC hz;obtain ⟨z2,rfl,hz2⟩:=rO hz1;obtain ⟨v,cb,rfl,hv,hcb⟩:=jY hz2;obtain ⟨id2,ops2,rfl,hops2⟩:=gB hv rfl;have I:=oK hops1;have R:=oK hops2;obtain ⟨S1,hS1,q1,hst1,hpq1⟩:=bA hs;have hsz1:ops1.size=S1.length+1:=by rw [←I.1,p,←hS1];simp
 refine wp_seq (wp_region ?_);rw [List.range_eq_range',hsz1,List.range'_1_concat];refine tq (tail:= [0+S1.length]) I hd1 (fun G1 a1 w1 hC1=> ?_) (l:=S1) (k:=0) (fun j x hx=>by rw [p,Nat.zero_add,←hS1,gC1 (gA0 hx).1];exact hx) (by omega) hst1 (hpq1 hp1) hC;have C:l1[0+S1.length]? =some ⟨none,.rng t U x0⟩:=by rw [p,←hS1,Nat.zero_add,gC2 (by simp)];simp
 refine fV I C fun gs o ho=> ?_
 obtain ⟨xo,e1,e2,e3,kt,et,hu⟩:=Ih ho;have hval:a1.eval xo= .map none:=tn (hC1.ev e3 hx0).1;have hrun:=run_range_nilMap (P:=P) w1 t kt et hu
 refine iZ (v:= .pointer (some ⟨w1.heap.size,0,none⟩)) (w' :=w1.alloc (.mapIter none 0 #[] 0)) (by
  unfold execOp;rw [e1];simp only [hval,Sem.run_bind,hrun,Result.andThen_ok,Sem.run_pure]) e2 ?_
 have hdn0:U<E.n:=dd hd1 C U rfl
 have hC2:Conc E G1 (aJz fr1 U (itA w1.heap.size)) st1 (a1.put (some U) (.pointer (some ⟨w1.heap.size,0,none⟩))) (w1.alloc (.mapIter none 0 #[] 0)):=
  (hC1.same ((Below.refl w1.heap.size w1).alloc (gA4 _) _)).put hdn0 ⟨.raw _ rfl,trivial⟩
 obtain ⟨G4,hC4⟩:=h0 w1.heap.size E G1 _ _ hC2;show (Code.block T _).wp P _ _ _;refine wp_block (wp_loop (fun a w=>a=a1.put (some U) (.pointer (some ⟨w1.heap.size,0,none⟩))∧w=w1.alloc (.mapIter none 0 #[] 0)) (fun _ _=>0) ⟨rfl,rfl⟩ ?_);rintro a5 w5 ⟨rfl,rfl⟩;refine wp_seq (wp_region ?_);have hsz2:ops2.size=post.length+1:=by rw [←R.1];simp
 rw [List.range_eq_range',hsz2,List.range'_succ];refine fV R (j:=0) rfl fun gs o ho=> ?_
 obtain ⟨xo2,e4,e5,e6⟩:=Ii ho;have hv2:=tn (hC4.ev e6 (hJ w1.heap.size)).1;have hdn1:d1<E.n:=dd hd2 (k:=0) rfl d1 rfl;have hrn:=run_next_nilMap (P:=P) w1 o.type 0 0 #[];obtain ⟨rs2,rs2',f2,s2,p2,ha,hp2,hK⟩:=hend w1.heap.size;obtain ⟨S2,hS2,q2,hst2,hpq2⟩:=bA ha
 refine iZ (v:= .tuple #[.bool false]) (w' :=w1.alloc (.mapIter none 0 #[] 0)) (by
  unfold execOp;rw [e4];simp only [hv2,Sem.run_bind,hrn,Result.andThen_ok,Sem.run_pure]) e5 ?_
 have hC6:=hC4.put (v:= .tuple #[.bool false]) (x:= .tup [.bool false]) hdn1 ⟨[.bool false],rfl,rfl,fun j u y hu hy=>by
  rcases j with _|j
  ·simp at hu hy;subst hu hy;exact .of (.bool _)
  ·simp at hu⟩
 have hl:post.length=S2.length:=by rw [←hS2];simp
 rw [hl];refine lY R hd2 (fun G' a' w' hc=> ?_) (l:=S2) (k:=1) (fun j=>by rw [hS2,Nat.add_comm,List.getElem?_cons_succ]) (by omega) hst2 (hpq2 hp2) hC6;show cb.wp P _ a' w';refine wp_mono (hK hdb mu cb G' a' w' hcb hdb hc) fun e a9 w9 ⟨G9,f9,s9,hC9,hQ9⟩=> ?_
 have g:MQ0 P E Q k T e f9 s9:=by cases e<;>exact hQ9
 cases e with
 |exit i=>
  obtain ⟨rfl,hq⟩:=g;simp only [Exit.then,Exit.inBlock];rw [if_pos trivial];exact ⟨_,_,_,hC9,hq⟩
 |normal=>exact (show False from g).elim
 |goto l=>exact (show False from g).elim
 |ret=>exact (show False from g).elim
 |panic ch=>exact (show False from g).elim
 |outgrown=>exact (show False from g).elim
end
end
section
set_option maxRecDepth 100000
set_option maxHeartbeats 20000000
def ID:List Nat:= [2000216,2000213,2000158,2000290,2000289,2000264,2000245,2000215,2000059,2000112,2000058,2000159,2000110,2000105]
noncomputable def bq:ACode:=bK Tryz.prog ID Tryz.f26
noncomputable def ez:AFn:=⟨2,48,bq,[.tmp 4,.tmp 5]⟩
theorem eA:ar Tryz.prog ID Tryz.f26=some ez:=kk
theorem eB:ab Tryz.prog 26=true:=kk
end
end Go.Proofs.YtbgflifmanjpjaaGreatDoor
