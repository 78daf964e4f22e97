/- Part 41. -/
import Derived.Test.YtbgflifmanjpjaaGreatDoorS40
set_option linter.unusedSimpArgs false
set_option linter.unusedVariables false
namespace Go.Proofs.YtbgflifmanjpjaaGreatDoor
section
open Go.RowKit
abbrev FX:=Option (Bool×Nat×Nat)
abbrev fX (l:List EX) (m:Nat):List AV:=rowB (aP l) m
theorem BV {c:AV} {x:EX} (h:c∈x.row):c.cln=true∧c.unown=c:=by
 obtain ⟨k,v,n,s,a⟩:=x;simp only [EX.row,exH,List.cons_append,List.nil_append,List.mem_cons,List.not_mem_nil,or_false] at h;rcases h with rfl|rfl|rfl|rfl|rfl|rfl|rfl|rfl|rfl|rfl<;>exact ⟨rfl,rfl⟩
theorem Is (x:EX):x.row.length=10:=by
 obtain ⟨k,v,n,s,a⟩:=x;rfl
theorem al (l:List EX):Cln (aP l):=fun r hr c g=>by
 rw [fT] at hr;obtain ⟨x,_,rfl⟩:=List.mem_map.1 hr;exact (BV g).1
theorem lJ (l:List EX):RowsOk 10 (aP l):=⟨by omega,fun c g=>by
 rw [fT] at g;obtain ⟨x,_,rfl⟩:=List.mem_map.1 g;exact ⟨Is x,(List.map_congr_left fun d i=>(BV i).2).trans (List.map_id _)⟩⟩
def exI (l:List EX) (i:Nat×Nat):Prop:=l.length≤i.1∧(fX l i.2).length=i.1*10
def kw (l:List EX):FX→Prop
 |none=>l= []
 |some (_,i)=>exI l i
def exS (a b:Nat) (l:List EX):FX→List (Nat×List AV)
 |none=> []
 |some (false,i)=> [(a,fX l i.2)]
 |some (true,i)=> [(b,fX l i.2)]
def exA (a b:Nat) (l:List EX):FX→AV
 |none=> .lst .nil 10 []
 |some (false,i)=> .sli a 10 l.length i.1
 |some (true,i)=> .sli b 10 l.length i.1
abbrev exG (a b:Nat) (x:EX) (f:FX):AV:= .agg (exH x.kind x.v x.name x.steps++ [exA a b x.args f])
theorem ii (st:St) (q:Nat) (l:List EX) (cap m:Nat) (hb:st.box q=some (fX l m,true)) (g:ck q=false):AVle1 st (.sli q 10 l.length cap) (.lst .any 10 (aP l)):=by
 rw [←bj l];exact .frz q 10 cap (aP l) (List.replicate m AV.top) hb (lJ l) g
def PO (n:Nat):Prop:= ∀(r:RD) (x:EX) (ok:Bool) (r' :RD),r.s.length≤1000000→4*r.s.length+1≤n→exF n .operand r=(x,ok,r')→MSX Tryz.prog 264 (rdS r) [.np 2000000 0] (kw x.args) (fun f=>rdS r' ++exS 1000001 1000002 x.args f) (fun f=> .tup [exG 1000001 1000002 x f,.bool ok])
def PC (n:Nat):Prop:= ∀(r:RD) (x:EX) (ok:Bool) (r' :RD),r.s.length≤1000000→4*r.s.length+2≤n→exF n .command r=(x,ok,r')→MSX Tryz.prog 245 (rdS r) [.np 2000000 0] (kw x.args) (fun f=>rdS r' ++exS 1000001 1000002 x.args f) (fun f=>exG 1000001 1000002 x f)
def PP (n:Nat):Prop:= ∀(r:RD) (x:EX) (ok:Bool) (r' :RD),r.s.length≤1000000→4*r.s.length+3≤n→exF n .pipe r=(x,ok,r')→MSX Tryz.prog 215 (rdS r) [.np 2000000 0] (kw x.args) (fun f=>rdS r' ++exS 1000001 1000002 x.args f) (fun f=>exG 1000001 1000002 x f)
theorem mi (r:RD) (l:List EX) (m:Nat) (q:Nat) (g:q=1000001∨q=1000002∨q=1000003∨q=1000004) (res:AV) (hr:okS [2000000] [(2000000,rdC r),(q,[])] res=true):okS [2000000] [(2000000,rdC r),(q,fX l m)] res=true:=by
 have h:=(al l).inS [2000000,q] m;unfold okS at hr⊢;rw [gA9,gA9] at hr⊢;refine ⟨⟨hr.1.1,?_⟩,hr.2⟩;show (true&&((fX l m).all (AV.inS [2000000,q])&&true))=true;rw [h];rfl
theorem tu (r:RD) (x:EX) (b:Bool) (f:FX) {g:Nat→Option (List AV×Bool)} (i:a8 g (ay [2000000] (rdS r++exS 1000003 1000004 x.args f))=true):(okS [2000000] (rdS r++exS 1000003 1000004 x.args f) (.tup [exG 1000003 1000004 x f,.bool b])&&a8 g (ay [2000000] (rdS r++exS 1000003 1000004 x.args f)))=true:=by
 rw [i,Bool.and_true];rcases f with _|⟨_|_,c,m⟩
 ·rfl
 ·exact mi r x.args m 1000003 (by omega) _ rfl
 ·exact mi r x.args m 1000004 (by omega) _ rfl
theorem JT (r:RD) (x:EX) (b:Bool) (f:FX) {g:Nat→Option (List AV×Bool)} (i:a8 g (ay [2000000] (rdS r++exS 1000001 1000002 x.args f))=true):(okS [2000000] (rdS r++exS 1000001 1000002 x.args f) (.tup [exG 1000001 1000002 x f,.bool b])&&a8 g (ay [2000000] (rdS r++exS 1000001 1000002 x.args f)))=true:=by
 rw [i,Bool.and_true];rcases f with _|⟨_|_,c,m⟩
 ·rfl
 ·exact mi r x.args m 1000001 (by omega) _ rfl
 ·exact mi r x.args m 1000002 (by omega) _ rfl
theorem zx (r:RD) (x:EX) (f:FX) {g:Nat→Option (List AV×Bool)} (i:a8 g (ay [2000000] (rdS r++exS 1000001 1000002 x.args f))=true):(okS [2000000] (rdS r++exS 1000001 1000002 x.args f) (exG 1000001 1000002 x f)&&a8 g (ay [2000000] (rdS r++exS 1000001 1000002 x.args f)))=true:=by
 rw [i,Bool.and_true];rcases f with _|⟨_|_,c,m⟩
 ·rfl
 ·exact mi r x.args m 1000001 (by omega) _ rfl
 ·exact mi r x.args m 1000002 (by omega) _ rfl
def zy (i:Nat):Nat:=swY 1000001 1000003 (swY 1000002 1000004 i)
theorem It (i j:Nat) (h:zy i=zy j):i=j:=bp _ _ (bp _ _ h)
theorem JU (i:Nat):kd (zy i)=kd i:=by unfold zy;rw [bM (by rfl),bM (by rfl)]
theorem Ki (q:Nat) (l:List EX) (m:Nat):qd zy [(q,fX l m)]= [(zy q,fX l m)]:=by
 show [(zy q,(fX l m).map (AV.ren zy))]=_;rw [(al l).ren]
theorem PO.ren {n:Nat} (h:PO n) (r:RD) (x:EX) (ok:Bool) (r' :RD) (g:r.s.length≤1000000) (i:4*r.s.length+1≤n) (j:exF n .operand r=(x,ok,r')):MSX Tryz.prog 264 (rdS r) [.np 2000000 0] (kw x.args) (fun f=>rdS r' ++exS 1000003 1000004 x.args f) (fun f=> .tup [exG 1000003 1000004 x f,.bool ok]):=
 ((h r x ok r' g i j).ren zy It JU).impY (fun f=>f) (fun _ h=>h) (fun f=>by
  rcases f with _|⟨_|_,c,m⟩
  ·rfl
  ·exact congrArg (List.cons _) (Ki 1000001 x.args m).symm
  ·exact congrArg (List.cons _) (Ki 1000002 x.args m).symm) fun f=>by
  rcases f with _|⟨_|_,c,m⟩<;>rfl
theorem Iu (c:UInt8) (t:Bs):(toB (c::t)).data.getD (0:Int).toNat 0=c:=ei (k:=0) rfl
theorem JV {c:UInt8} (n:Nat) (hn:n<256) (h:decide ((c.toNat:Int)=(n:Int))=true):c=n.toUInt8:=by
 rw [ej c n hn] at h;simpa using h
theorem JW {c:UInt8} (n:Nat) (hn:n<256) (h:decide ((c.toNat:Int)=(n:Int))=false): ¬c=n.toUInt8:=by
 rw [ej c n hn] at h;simpa using h
theorem L0 (c:UInt8):(decide ((c.toNat:Int)=45)||decide ((c.toNat:Int)≥48)&&decide ((c.toNat:Int)≤57))=(c==45||wF c):=by
 rw [show ((45:Int))=((45:Nat):Int) from rfl,show ((48:Int))=((48:Nat):Int) from rfl,show ((57:Int))=((57:Nat):Int) from rfl,ej c 45 (by omega),BS c 48 (by omega),BR c 57 (by omega)];rfl
theorem DG: ∀{n:Nat} {s:Bs},(be n s).1= []→(be n s).2=s
 |0,s,_=>rfl
 |n+1,[],_=>rfl
 |n+1,[d],_=>rfl
 |n+1,d::c::t,h=>by
  rw [j0] at h⊢;split at h
  ·cases h
  ·rename_i g
   rw [if_neg g]
theorem rQ: ∀{n m:Nat} {s:Bs},s.length≤n→s.length≤m→be n s=be m s
 |0,m,[],_,_=>by cases m<;>rfl
 |n+1,m,[],_,_=>by cases m<;>rfl
 |n+1,m,[d],_,_=>by cases m<;>rfl
 |n+1,0,d::c::t,_,h=>by simp at h
 |n+1,m+1,d::c::t,g,i=>by
  rw [j0,j0];have hl:((c::t).drop (nmL (c::t)).length).length≤t.length+1:=by rw [gA6,gA3];omega
  simp only [gA3] at g i;rw [rQ (n:=n) (m:=m) (by omega) (by omega)]
theorem F8 (n:Nat) (hp:PP n):PO (n+1):=fun ⟨s,j,i⟩ x ok r' hl hn g=>by
 have hl:s.length≤1000000:=hl;have hn:4*s.length+1≤n+1:=hn;have hsk:=mh ⟨s,j,i⟩;have htl:=cu s;refine MSX.enterE Tryz.func264 gC gD (by rfl) (by rfl) fun E hE=> ?_
 show AK _ _ _ [.c ci] _ _;rw [ci];rw [exF] at g;have esk:(⟨s,j,i⟩:RD).skip=⟨tlw s,j,i⟩:=rfl;rw [esk] at hsk g;simp only [RD.fail,RD.to] at g;generalize tlw s=u at g htl hsk;refine kW ?_;refine kQ [.s [2000000] (rdS ⟨u,j,i⟩) (.tup [])] ?_;refine kW ?_;cases u with
 |nil=>
  dsimp only at g;cases g;refine kCt ?_ (by rfl);refine kW ?_;exact aR ⟨none,rfl,⟨_,rfl,rfl⟩,⟨_,rfl,rfl⟩,trivial⟩
 |cons c t=>
  rw [gA3] at htl;dsimp only at g;refine kC (fun hb=> ?_) fun hb=> ?_
  ·exfalso
   rw [bw] at hb;cases hb
  clear hb;refine kW ?_;refine kP [] ?_ ?_
  ·((repeat' apply aI)<;>first|exact kD|(intro r;refine ⟨?_,kG⟩;(repeat' apply aI)<;>first|exact kD|skip)|skip)
   all_goals (rw [ae,gA3];omega)
  rw [Iu];refine kW ?_;refine kC (fun hb=> ?_) fun hb=> ?_
  ·have p:c=34:=JV 34 (by omega) hb
   rw [if_pos p] at g;clear hb;have huq:=iH (toB (c::t)) (by rw [ae,gA3];omega);rw [show unq (toB (c::t))=lr (c::t) from rfl] at huq;rcases hu:lr (c::t) with _|⟨y,rest⟩
   ·rw [hu] at g huq
    dsimp only at g;cases g;have hfl:=gX ⟨c::t,j,i⟩ 11;refine kW ?_;refine kQ [.v (.tup [.str ⟨#[]⟩,.str ⟨#[]⟩,.int .i64 11])] ?_;refine kW ?_;refine kCt ?_;refine kW ?_;refine kQ [.s [2000000] (rdS ⟨[],j,if i=0 then 11 else i⟩) (exN EX.null)] ?_;exact aR ⟨none,rfl,⟨_,rfl,rfl⟩,⟨_,rfl,rfl⟩,trivial⟩
   ·rw [hu] at g huq
    dsimp only at g;cases g;have I:=l8 (toB y);refine kW ?_;refine kQ [.v (.tup [.str (toB y),.str (toB rest),.int .i64 0])] ?_;refine kW ?_;refine kCf ?_;refine kW ?_;refine kQ [.v (vA (V.str (toB y)))] ?_;exact aR ⟨none,rfl,⟨_,rfl,rfl⟩,⟨_,rfl,rfl⟩,trivial⟩
  have n34: ¬c=34:=JW 34 (by omega) hb;rw [if_neg n34] at g;clear hb;refine AK.weak (wN (L:= [(0,.np 2000000 0),(2,.ptr 2 0),(4,.int .u8 c.toNat)]) (BL:= [(2,exZ,false),(2000000,rdC ⟨c::t,j,i⟩,false)]) ⟨kI,kI,kI,trivial⟩ ⟨kJ,kJ,trivial⟩ rfl rfl ⟨rfl,trivial⟩) ?_;refine kW ?_;refine kQ [] ?_;rw [L0];refine kC (fun hb=> ?_) fun hb=> ?_
  ·have p:c=45∨wF c=true:=by simpa using hb
   rw [if_pos p] at g;cases g;clear hb;have hnm:=F7 ⟨c::t,j,i⟩ (by show (c::t).length≤_;rw [gA3];omega) rfl;refine kW ?_;refine kQ [.s [2000000] (rdS (qT ⟨c::t,j,i⟩).2) (exN (qT ⟨c::t,j,i⟩).1)] ?_;have P:=List.eq_nil_of_length_eq_zero (BM ⟨c::t,j,i⟩ rfl).1;exact aR ⟨none,P,⟨_,rfl,rfl⟩,⟨_,rfl,rfl⟩,trivial⟩
  have n45: ¬(c=45∨wF c=true):=by simpa using hb
  rw [if_neg n45] at g;clear hb;refine kW ?_;refine kC (fun hb=> ?_) fun hb=> ?_
  ·have p:c=46:=JV 46 (by omega) hb
   rw [if_pos p] at g;clear hb;have I:=BT ⟨c::t,j,i⟩ (by show (c::t).length≤_;rw [gA3];omega);have J:=DG (n:=(c::t).length) (s:=c::t);refine kW ?_;refine kQ [.s [2000000] (rdS ⟨(be (c::t).length (c::t)).2,j,i⟩) (.lst .any 1 (bJ (be (c::t).length (c::t)).1))] ?_;generalize be (c::t).length (c::t)=w at g J⊢;clear I;obtain ⟨l,rest⟩:=w;dsimp only at g J;refine kW ?_;refine kC (fun hb=> ?_) fun hb=> ?_
   ·have P:l= []:=by
     have:(bJ l).length=0:=by simpa using hb
     rw [dh] at this;exact List.eq_nil_of_length_eq_zero this
    clear hb;have hr:=J P;subst P;subst hr;rw [if_pos rfl] at g;cases g;refine kW ?_;refine kP [] ?_ ?_
    ·((repeat' apply aI)<;>first|exact kD|(intro r;refine ⟨?_,kG⟩;(repeat' apply aI)<;>first|exact kD|skip)|skip)
     all_goals (rw [ae,gA3];omega)
    rw [show ((1:Int)).toNat=((1:Nat):Int).toNat from rfl,ba,show (c::t).drop 1=t from rfl];refine kW ?_;exact aR ⟨none,rfl,⟨_,rfl,rfl⟩,⟨_,rfl,rfl⟩,trivial⟩
   ·have P: ¬l= []:=by
     intro h;subst h;cases hb
    clear hb;rw [if_neg P] at g;cases g;refine kW ?_;exact aR ⟨none,rfl,⟨_,rfl,rfl⟩,⟨_,rfl,rfl⟩,trivial⟩
  have n46: ¬c=46:=JW 46 (by omega) hb;rw [if_neg n46] at g;clear hb;refine kW ?_;refine kC (fun hb=> ?_) fun hb=> ?_
  ·have p:c=36:=JV 36 (by omega) hb
   rw [if_pos p] at g;clear hb;have hnm:=fM ⟨t,j,i⟩ (by show t.length≤_;omega);refine kW ?_;refine kP [] ?_ ?_
   ·((repeat' apply aI)<;>first|exact kD|(intro r;refine ⟨?_,kG⟩;(repeat' apply aI)<;>first|exact kD|skip)|skip)
    all_goals (rw [ae,gA3];omega)
   rw [show ((1:Int)).toNat=((1:Nat):Int).toNat from rfl,ba,show (c::t).drop 1=t from rfl];refine kW ?_;refine kQ [.s [2000000] (rdS ⟨t.drop (nmL t).length,j,i⟩) (.str (toB (nmL t)))] ?_;refine kW ?_;rw [bw (nmL t)];refine kC (fun hb=> ?_) fun hb=> ?_
   ·have P:nmL t= []:=by simpa using hb
    clear hb;rw [if_pos P] at g;cases g;have hfl:=gX ⟨t.drop (nmL t).length,j,i⟩ 20;refine kW ?_;refine kQ [.s [2000000] (rdS ⟨[],j,if i=0 then 20 else i⟩) (exN EX.null)] ?_;exact aR ⟨none,rfl,⟨_,rfl,rfl⟩,⟨_,rfl,rfl⟩,trivial⟩
   ·have P: ¬nmL t= []:=by simpa using hb
    clear hb;rw [if_neg P] at g;have hl2:(t.drop (nmL t).length).length≤t.length:=by rw [gA6];omega
    have I:=BT ⟨t.drop (nmL t).length,j,i⟩ (by show (t.drop (nmL t).length).length≤_;omega);dsimp only at I;rw [rQ (m:=t.length) (gA4 _) hl2] at I;cases g;refine kW ?_;refine kQ [.s [2000000] (rdS ⟨(be t.length (t.drop (nmL t).length)).2,j,i⟩) (.lst .any 1 (bJ (be t.length (t.drop (nmL t).length)).1))] ?_;refine kW ?_;exact aR ⟨none,rfl,⟨_,rfl,rfl⟩,⟨_,rfl,rfl⟩,trivial⟩
  have n36: ¬c=36:=JW 36 (by omega) hb;rw [if_neg n36] at g;clear hb;refine kW ?_;refine kC (fun hb=> ?_) fun hb=> ?_
  ·have p:c=40:=JV 40 (by omega) hb
   rw [if_pos p] at g;clear hb;refine kW ?_;refine kC (fun hb=> ?_) fun hb=> ?_
   ·have h16:16<IntKind.i64.wrap (j+1):=by simpa using hb
    clear hb;rw [if_pos h16] at g;cases g;have hfl:=gX ⟨c::t,IntKind.i64.wrap (j+1),i⟩ 5;refine kW ?_;refine kQ [.s [2000000] (rdS ⟨[],IntKind.i64.wrap (j+1),if i=0 then 5 else i⟩) (exN EX.null)] ?_;exact aR ⟨none,rfl,⟨_,rfl,rfl⟩,⟨_,rfl,rfl⟩,trivial⟩
   have h16: ¬16<IntKind.i64.wrap (j+1):=by simpa using hb
   clear hb;rw [if_neg h16] at g;refine kW ?_;refine kP [] ?_ ?_
   ·((repeat' apply aI)<;>first|exact kD|(intro r;refine ⟨?_,kG⟩;(repeat' apply aI)<;>first|exact kD|skip)|skip)
    all_goals (rw [ae,gA3];omega)
   rw [show ((1:Int)).toNat=((1:Nat):Int).toNat from rfl,ba,show (c::t).drop 1=t from rfl];refine kW ?_;rcases hy:exF n .pipe ⟨t,IntKind.i64.wrap (j+1),i⟩ with ⟨y,by_,⟨T,R,C⟩⟩
   rw [hy] at g;dsimp only at g;have hM:=hp ⟨t,IntKind.i64.wrap (j+1),i⟩ y by_ ⟨T,R,C⟩ (by show t.length≤_;omega) (by show 4*t.length+3≤n;omega) hy;have U:=mh ⟨T,R,C⟩;rw [show (⟨T,R,C⟩:RD).skip=⟨tlw T,R,C⟩ from rfl] at U
   have hl1:T.length≤1000000:=by
    have:=(bD n .pipe ⟨t,IntKind.i64.wrap (j+1),i⟩).1;rw [hy] at this;have:y.args.length+T.length≤0+t.length:=this;omega
   have hl2:=cu T;generalize tlw T=u at g U hl2;have hpr:=eO u 41;have hfl:=gX ⟨u,R,C⟩ 20
   have hcase:(bu 41 u=false∧(x,ok,r')=(EX.null,true,(⟨[],R,if C=0 then 20 else C⟩:RD)))∨ ∃u',u=41::u' ∧(x,ok,r')=(y,true,(⟨u',IntKind.i64.wrap (R-1),C⟩:RD)):=by
    cases u with
    |nil=>exact .inl ⟨rfl,g.symm⟩
    |cons d u' =>
     dsimp only at g;by_cases hd:d=41
     ·rw [if_pos hd] at g
      exact .inr ⟨u',by rw [hd],g.symm⟩
     ·rw [if_neg hd] at g
      exact .inl ⟨by simpa [bu] using hd,g.symm⟩
   clear g;refine AK.regs ?_;refine SK.run 1 [] trivial ?_;refine SK.callX (kw y.args) (fun f=>rdS ⟨T,R,C⟩++exS 1000001 1000002 y.args f) (fun f=>exG 1000001 1000002 y f) [2000000] hM (fun f hf=>zx _ y f (by rcases f with _|⟨_|_,c,m⟩<;>rfl)) fun f hf=> ?_
   rcases f with _|⟨_|_,cap,m⟩
   all_goals
    refine SK.all [] trivial ?_;refine kW ?_;refine kQ [.s [2000000] (rdS ⟨u,R,C⟩) (.tup [])] ?_;refine kW ?_;refine kQ [.v (.bool (bu 41 u))] ?_;rcases hcase with ⟨hh,g⟩|⟨u',rfl,g⟩
    ·cases g
     rw [hh];refine kCt ?_;refine kW ?_;refine kQ [.s [2000000] (rdS ⟨[],R,if C=0 then 20 else C⟩) (exN EX.null)] ?_;exact aR ⟨none,rfl,⟨_,rfl,rfl⟩,⟨_,rfl,rfl⟩,trivial⟩
    ·cases g
     refine kCf ?_ (by rfl);refine kW ?_;refine kP [] ?_ ?_
     ·((repeat' apply aI)<;>first|exact kD|(intro r;refine ⟨?_,kG⟩;(repeat' apply aI)<;>first|exact kD|skip)|skip)
      all_goals (rw [ae,gA3];omega)
     rw [show ((1:Int)).toNat=((1:Nat):Int).toNat from rfl,ba,show (41::u').drop 1=u' from rfl];refine kW ?_
     first
      |exact aR ⟨none,hf,⟨_,rfl,rfl⟩,⟨_,rfl,rfl⟩,trivial⟩
      |exact aR ⟨some (false,cap,m),hf,⟨_,rfl,rfl⟩,⟨_,rfl,rfl⟩,⟨_,rfl,(al _).told m⟩,trivial⟩
      |exact aR ⟨some (true,cap,m),hf,⟨_,rfl,rfl⟩,⟨_,rfl,rfl⟩,⟨_,rfl,(al _).told m⟩,trivial⟩
  have n40: ¬c=40:=JW 40 (by omega) hb;rw [if_neg n40] at g;clear hb;have hlt:=i6 c;refine kW ?_;refine kQ [.v (.bool (gI c))] ?_;refine kW ?_;refine kC (fun hb=> ?_) fun hb=> ?_
  ·rw [if_pos hb] at g
   clear hb hlt;have hnm:=fM ⟨c::t,j,i⟩ (by show (c::t).length≤_;rw [gA3];omega);refine kW ?_;refine kQ [.s [2000000] (rdS ⟨(c::t).drop (nmL (c::t)).length,j,i⟩) (.str (toB (nmL (c::t))))] ?_;refine kW ?_;generalize nmL (c::t)=w at g⊢;clear hnm;refine AK.weak (wN (L:= [(0,.np 2000000 0),(2,.ptr 2 0),(11,.str (toB (c::t))),(165,.str (toB w)),(170,.bool (decide (w=wTr)))]) (BL:= [(2,exZ,false),(2000000,[.str (toB ((c::t).drop w.length)),.int .i64 j,.int .i64 i],false)]) ⟨kI,kI,kI,kI,⟨_,rfl,.of_eq (congrArg AV.bool (decide_eq_decide.2 (cL (b:=wTr))))⟩,trivial⟩ ⟨kJ,kJ,trivial⟩ rfl rfl ⟨rfl,trivial⟩) ?_;by_cases p:w=wTr
   ·rw [if_pos (.inl p)] at g
    cases g;rw [decide_eq_true p];refine kCt ?_;refine kW ?_;refine kCt ?_;have hB:=jC (c==116);refine kW ?_;refine kP [.v (vA (V.bool (c==116)))] ?_ ?_
    ·((repeat' apply aI)<;>first|exact kD|(intro r;refine ⟨?_,kG⟩;(repeat' apply aI)<;>first|exact kD|skip)|skip)
     all_goals first|(rw [ae,gA3];omega)|(rw [Iu,show ((116:Int))=((116:Nat):Int) from rfl,ej c 116 (by omega)];exact hB)
    exact aR ⟨none,rfl,⟨_,rfl,rfl⟩,⟨_,rfl,rfl⟩,trivial⟩
   rw [decide_eq_false p];refine kCf ?_;refine kW ?_;rw [show decide (toB w=⟨#[102,97,108,115,101]⟩)=decide (w=wFa) from decide_eq_decide.2 (cL (b:=wFa))];by_cases h2:w=wFa
   ·rw [if_pos (.inr h2)] at g
    cases g;rw [decide_eq_true h2];refine kCt ?_;have hB:=jC (c==116);refine kW ?_;refine kP [.v (vA (V.bool (c==116)))] ?_ ?_
    ·((repeat' apply aI)<;>first|exact kD|(intro r;refine ⟨?_,kG⟩;(repeat' apply aI)<;>first|exact kD|skip)|skip)
     all_goals first|(rw [ae,gA3];omega)|(rw [Iu,show ((116:Int))=((116:Nat):Int) from rfl,ej c 116 (by omega)];exact hB)
    exact aR ⟨none,rfl,⟨_,rfl,rfl⟩,⟨_,rfl,rfl⟩,trivial⟩
   rw [if_neg (by rintro (h|h);exact p h;exact h2 h)] at g;rw [decide_eq_false h2];refine kCf ?_;refine kW ?_;rw [show decide (toB w=⟨#[110,105,108]⟩)=decide (w=wNi) from decide_eq_decide.2 (cL (b:=wNi))];by_cases h3:w=wNi
   ·rw [if_pos h3] at g
    cases g;rw [decide_eq_true h3];refine kCt ?_;refine kW ?_;exact aR ⟨none,rfl,⟨_,rfl,rfl⟩,⟨_,rfl,rfl⟩,trivial⟩
   rw [if_neg h3] at g;cases g;rw [decide_eq_false h3];refine kCf ?_;refine kW ?_;exact aR ⟨none,rfl,⟨_,rfl,rfl⟩,⟨_,rfl,rfl⟩,trivial⟩
  ·rw [if_neg (by rw [hb];decide)] at g
   cases g;refine kW ?_;exact aR ⟨none,rfl,⟨_,rfl,rfl⟩,⟨_,rfl,rfl⟩,trivial⟩
end
section
set_option maxRecDepth 100000
set_option maxHeartbeats 20000000
def EO:List Nat:= [2000216,2000213,2000158,2000290,2000289,2000264,2000245,2000215,2000059,2000112,2000058,2000159,2000110,2000105,4000054,5000001,5000008]
noncomputable def cj:ACode:=bK Tryz.prog EO Tryz.f245
noncomputable def i8:AFn:=⟨1,56,cj,[.cell 2 10 true]⟩
theorem gE:ar Tryz.prog EO Tryz.f245=some i8:=kk
theorem gF:ab Tryz.prog 245=true:=kk
end
end Go.Proofs.YtbgflifmanjpjaaGreatDoor
