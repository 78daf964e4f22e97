/- Part 28. -/
import Derived.Test.YtbgflifmanjpjaaGreatDoorS27
import Derived.Lib.SlTrimSet
set_option linter.unusedSimpArgs false
set_option linter.unusedVariables false
namespace Go.Proofs.YtbgflifmanjpjaaGreatDoor
open Go.RowKit
structure Tok where
 act:Bool
 s:Bs
 at_:Nat
def wsB:Bs:= [32,9,10]
def tlw (s:Bs):Bs:=Lib.trimLeftS s wsB
def trw (s:Bs):Bs:=Lib.trimRightS s wsB
def tmw (s:Bs):Bs:=Lib.trimS s wsB
def sJ (s:Bs):Nat→Nat→Nat
 |0,i=>i
 |n+1,i=>match s.drop i with
  | []=>i
  |c::_=>if c=34 then i else sJ s n (if c=92 then i+1+1 else i+1)
def iu (s:Bs):Nat→Nat→Option Nat
 |0,_=>none
 |n+1,i=>match s.drop i with
  | []=>none
  |c::t=>if ([125,125]:Bs).isPrefixOf (c::t)=true then some i else if c=34 then iu s n (sJ s (s.length+1) (i+1)+1) else iu s n (i+1)
def ki (s:Bs) (i:Nat):Option Nat:=iu s (s.length+1) i
def bz (l:List Tok) (t:Tok):List Tok:=match t.s with
 | []=>l
 |_=>l++ [t]
def sK (i:Bs):Bool:=i== [45]||([45,32]:Bs).isPrefixOf i
def inA (i:Bs):Bs:=if sK i=true then i.drop 1 else i
def wD (i:Bs):Bool:=Lib.hasSuffix (inA i) [32,45]
def cEz (i:Bs):Bs:=tmw (if wD i=true then (inA i).take ((inA i).length-2) else inA i)
def y4 (w:Bs):Bool:=([47,42]:Bs).isPrefixOf w&&Lib.hasSuffix w [42,47]&&decide (4≤w.length)
def a6 (cut:Bool) (t:Bs):Bs:=if cut=true then tlw t else t
def oN (s:Bs):Nat→Nat→Bool→List Tok→Option (List Tok)
 |0,_,_,_=>none
 |n+1,a,cut,out=>if s.length≤a then some out
  else if Lib.index (s.drop a) [123,123]<0 then some (bz out ⟨false,a6 cut (s.drop a),a+((s.drop a).length-(a6 cut (s.drop a)).length)⟩)
  else
   let t:=(s.drop a).take (Lib.index (s.drop a) [123,123]).toNat
   let op:=(Lib.index (s.drop a) [123,123]).toNat+a
   match ki s (op+2) with
   |none=>none
   |some e=>
    let i:=(s.take e).drop (op+2)
    let g:=bz out ⟨false,if sK i=true then trw (a6 cut t) else a6 cut t,a+(t.length-(a6 cut t).length)⟩
    oN s n (e+2) (wD i) (if y4 (cEz i)=true then g else g++ [⟨true,cEz i,op⟩])
def resK:Option (List Tok)→List Tok×Int
 |none=>([],21)
 |some l=>(l,0)
def cV (s:Bs):List Tok×Int:=if 65536<s.length then ([],6) else resK (oN s (s.length+1) 0 false [])
def ba (l:List Tok):List (List AV):=l.map fun t=> [.bool t.act,.str (toB t.s),.int .i64 (t.at_:Int)]
theorem aX (l:List Tok):(ba l).length=l.length:=List.length_map _
theorem JR {l:List Tok} {k:Nat} {t:Tok} (h:l[k]? =some t):(ba l)[k]? =some [.bool t.act,.str (toB t.s),.int .i64 (t.at_:Int)]:=by simp [ba,h]
theorem oO (l:List Tok) (t:Tok):ba (l++ [t])=ba l++ [[.bool t.act,.str (toB t.s),.int .i64 (t.at_:Int)]]:=by simp [ba]
theorem wE (s:Bs): ∀(n i:Nat),i≤sJ s n i
 |0,i=>gA4 _
 |n+1,i=>by
  unfold sJ;split
  ·exact gA4 _
  ·split
   ·exact gA4 _
   ·refine gB7 ?_ (wE s n _)
    split<;>omega
theorem oP (s:Bs): ∀(n i e:Nat),iu s n i=some e→i≤e∧e+2≤s.length
 |0,_,_,h=>by cases h
 |n+1,i,e,h=>by
  unfold iu at h;split at h
  ·cases h
  ·rename_i c t j
   split at h
   ·rename_i p
    cases h;refine ⟨gA4 _,?_⟩;have g:=(List.isPrefixOf_iff_prefix.1 p).length_le;rw [←j,gA6] at g;simp only [gA3,List.length_nil] at g;omega
   ·split at h
    ·have r:=oP s n _ e h
     have C:=wE s (s.length+1) (i+1);omega
    ·have r:=oP s n _ e h
     omega
theorem wF {s:Bs} {i e:Nat} (h:ki s i=some e):i≤e∧e+2≤s.length:=oP s _ i e h
theorem y5 (s cs:Bs):(Lib.trimLeftS s cs).length≤s.length:=(List.dropWhile_sublist _).length_le
theorem y6 (s cs:Bs):(Lib.trimRightS s cs).length≤s.length:=by
 unfold Lib.trimRightS;rw [List.length_reverse];have:=(List.dropWhile_sublist (p:=(cs.contains ·)) (l:=s.reverse)).length_le;simpa using this
theorem cL (s:Bs):(tlw s).length≤s.length:=y5 _ _
theorem LA (s:Bs):(trw s).length≤s.length:=y6 _ _
theorem Gb (s:Bs):(tmw s).length≤s.length:=gB7 (y5 _ _) (y6 _ _)
theorem rD (c:Bool) (s:Bs):(a6 c s).length≤s.length:=by
 unfold a6;split
 ·exact cL s
 ·exact gA4 _
theorem wG (l:List Tok) (t:Tok):l.length≤(bz l t).length∧(bz l t).length≤l.length+1:=by
 unfold bz;split<;>simp
inductive EX where
 |mk (kind:Nat) (v:V) (name:ByteArray) (steps:List ByteArray) (args:List EX)
def EX.kind:EX→Nat
 | .mk k _ _ _ _=>k
def EX.v:EX→V
 | .mk _ v _ _ _=>v
def EX.name:EX→ByteArray
 | .mk _ _ n _ _=>n
def EX.steps:EX→List ByteArray
 | .mk _ _ _ s _=>s
def EX.args:EX→List EX
 | .mk _ _ _ _ a=>a
def EX.null:EX:= .mk 0 V.null ⟨#[]⟩ [] []
def exH (k:Nat) (v:V) (n:ByteArray) (s:List ByteArray):List AV:= [.int .i64 (k:Int),.int .i64 v.kind,.bool v.b,.int .i64 v.n,.str v.s,.lst .any 6 (aL v.l),.lst .any 7 (am v.m),.str n,.lst .any 1 (aRz s)]
mutual
def EX.row:EX→List AV
 | .mk k v n s a=>exH k v n s++ [.lst .any 10 (aO a)]
def aO:List EX→List (List AV)
 | []=> []
 |x::l=>x.row::aO l
end
theorem gu: ∀l:List EX,aO l=l.map EX.row
 | []=>rfl
 |x::l=>by rw [aO,gu l];rfl
theorem bu (l:List EX):(aO l).length=l.length:=by rw [gu,List.length_map]
theorem fi (l:List EX) (x:EX):aO (l++ [x])=aO l++ [x.row]:=by rw [gu,gu,List.map_append];rfl
inductive ND where
 |mk (kind:Nat) (text:ByteArray) (e:EX) (key name:ByteArray) (body els:List ND)
def ND.kind:ND→Nat
 | .mk k _ _ _ _ _ _=>k
def ND.text:ND→ByteArray
 | .mk _ t _ _ _ _ _=>t
def ND.e:ND→EX
 | .mk _ _ e _ _ _ _=>e
def ND.key:ND→ByteArray
 | .mk _ _ _ k _ _ _=>k
def ND.name:ND→ByteArray
 | .mk _ _ _ _ n _ _=>n
def ND.body:ND→List ND
 | .mk _ _ _ _ _ b _=>b
def ND.els:ND→List ND
 | .mk _ _ _ _ _ _ e=>e
def ND.null:ND:= .mk 0 ⟨#[]⟩ EX.null ⟨#[]⟩ ⟨#[]⟩ [] []
def ndH (k:Nat) (t:ByteArray) (e:EX) (key name:ByteArray):List AV:= .int .i64 (k:Int):: .str t::(e.row++ [.str key,.str name])
mutual
def ND.row:ND→List AV
 | .mk k t e key n b l=>ndH k t e key n++ [.lst .any 16 (a7 b),.lst .any 16 (a7 l)]
def a7:List ND→List (List AV)
 | []=> []
 |x::l=>x.row::a7 l
end
theorem jm: ∀l:List ND,a7 l=l.map ND.row
 | []=>rfl
 |x::l=>by rw [a7,jm l];rfl
theorem gv (l:List ND):(a7 l).length=l.length:=by rw [jm,List.length_map]
theorem JS {l:List ND} {k:Nat} {x:ND} (h:l[k]? =some x):(a7 l)[k]? =some x.row:=by rw [jm,gA8,h];rfl
theorem EU (l:List ND) (x:ND):a7 (l++ [x])=a7 l++ [x.row]:=by rw [jm,jm,List.map_append];rfl
def hZ (c:UInt8):Bool:=(decide (97≤c)&&decide (c≤122))||(decide (65≤c)&&decide (c≤90))||c==95
def nf (c:UInt8):Bool:=hZ c||(decide (48≤c)&&decide (c≤57))
def ya (c:UInt8):Bool:=decide (48≤c)&&decide (c≤57)
def nmL:Bs→Bs
 | []=> []
 |c::t=>if hZ c=true then c::t.takeWhile nf else []
def JT (s:Bs):Bool:=decide (nmL s=s)&& !s.isEmpty&&decide (s.length≤256)
def bi:Nat→Bs→List ByteArray×Bs
 |0,s=>([],s)
 |n+1,s=>match s with
  |d::c::t=>if d=46∧hZ c=true then (toB (nmL (c::t))::(bi n ((c::t).drop (nmL (c::t)).length)).1,(bi n ((c::t).drop (nmL (c::t)).length)).2) else ([],s)
  |_=>([],s)
structure RD where
 s:Bs
 deep:Int
 bad:Int
def RD.fail (r:RD) (e:Int):RD:=⟨[],r.deep,if r.bad=0 then e else r.bad⟩
def RD.skip (r:RD):RD:=⟨tlw r.s,r.deep,r.bad⟩
def RD.to (r:RD) (s:Bs):RD:=⟨s,r.deep,r.bad⟩
def ia:Bs→Nat
 | []=>1
 |_::t=>1+(t.takeWhile ya).length
def rE (r:RD):EX×RD:=match bw (toB (r.s.take (ia r.s))) with
 |(v,e)=>if e≠0∨v.kind≠2 then (EX.null,r.fail (if e=0 then 20 else e)) else (.mk 0 v ⟨#[]⟩ [] [],r.to (r.s.drop (ia r.s)))
inductive PM where
 |operand
 |command
 |args (name:ByteArray) (out:List EX)
 |pipe
 |bars (x:EX)
def wTr:Bs:= [116,114,117,101]
def wFa:Bs:= [102,97,108,115,101]
def wNi:Bs:= [110,105,108]
def exF:Nat→PM→RD→EX×Bool×RD
 |0,_,r=>(EX.null,false,r)
 |n+1,.operand,r=>match tlw r.s with
  | []=>(EX.null,false,r.skip)
  |c::t=>
   if c=34 then (match lU (c::t) with
    |none=>(EX.null,true,r.fail 11)
    |some (x,rest)=>(.mk 0 (V.str (toB x)) ⟨#[]⟩ [] [],true,r.to rest))
   else if c=45∨ya c=true then (((rE r.skip).1,true,(rE r.skip).2))
   else if c=46 then (.mk 1 V.null ⟨#[]⟩ (bi (c::t).length (c::t)).1 [],true,r.to (if (bi (c::t).length (c::t)).1= [] then t else (bi (c::t).length (c::t)).2))
   else if c=36 then (if nmL t= [] then (EX.null,true,r.fail 20)
    else (.mk 2 V.null (toB (nmL t)) (bi t.length (t.drop (nmL t).length)).1 [],true,r.to (bi t.length (t.drop (nmL t).length)).2))
   else if c=40 then (if 16<IntKind.i64.wrap (r.deep+1) then (EX.null,true,(⟨c::t,IntKind.i64.wrap (r.deep+1),r.bad⟩:RD).fail 5)
    else match exF n .pipe ⟨t,IntKind.i64.wrap (r.deep+1),r.bad⟩ with
     |(x,_,g)=>match tlw g.s with
      | []=>(EX.null,true,g.fail 20)
      |d::u=>if d=41 then (x,true,⟨u,IntKind.i64.wrap (g.deep-1),g.bad⟩) else (EX.null,true,g.fail 20))
   else if hZ c=true then
    (if nmL (c::t)=wTr∨nmL (c::t)=wFa then (.mk 0 (V.bool (c==116)) ⟨#[]⟩ [] [],true,r.to ((c::t).drop (nmL (c::t)).length))
    else if nmL (c::t)=wNi then (EX.null,true,r.to ((c::t).drop (nmL (c::t)).length))
    else (EX.null,false,r.skip))
   else (EX.null,false,r.skip)
 |n+1,.command,r=>match exF n .operand r with
  |(x,true,g)=>(x,true,g)
  |(_,false,g)=>if nmL g.s= [] then (EX.null,true,g.fail 20) else exF n (.args (toB (nmL g.s)) []) (g.to (g.s.drop (nmL g.s).length))
 |n+1,.args name out,r=>match exF n .operand r with
  |(x,true,g)=>exF n (.args name (out++ [x])) g
  |(_,false,g)=>if nmL g.s= [] then (.mk 3 V.null name [] out,true,g) else exF n (.args name (out++ [.mk 3 V.null (toB (nmL g.s)) [] []])) (g.to (g.s.drop (nmL g.s).length))
 |n+1,.pipe,r=>match exF n .command r with
  |(x,_,g)=>exF n (.bars x) g
 |n+1,.bars x,r=>match tlw r.s with
  | []=>(x,true,r.skip)
  |c::t=>if c=124 then (match exF n .command (r.to t) with
   |(y,_,g)=>if y.kind≠3∧g.bad=0 then (EX.null,true,g.fail 20) else exF n (.bars (.mk y.kind y.v y.name y.steps (y.args++ [x]))) g)
   else (x,true,r.skip)
def tQ (s:Bs):EX×Int:=match exF (4*s.length+4) .pipe ⟨s,0,0⟩ with
 |(x,_,r)=>if r.bad≠0 then (EX.null,r.bad) else if tlw r.s≠ [] then (EX.null,20) else (x,0)
def LB (s:Bs):Option (Bs×Bs):=match tlw s with
 | []=>none
 |c::t=>if c=36 then some (nmL t,tlw (t.drop (nmL t).length)) else none
def nh (s:Bs):Bs×Bs×Bool:=match LB s with
 |none=>([],[],false)
 |some (n,r)=>(n,r, !n.isEmpty)
def iJ (s:Bs):Bs×Bs×Bool:=match nh s with
 |(n,r,false)=>(n,r,false)
 |(n,r,true)=>if ([58,61]:Bs).isPrefixOf r=true then (n,r.drop 2,true) else (n,r,false)
structure MK where
 l:List Tok
 at_:Nat
 deep:Int
 bad:Int
def MK.fail (m:MK) (e:Int):MK:=⟨m.l,m.l.length,m.deep,if m.bad=0 then e else m.bad⟩
def MK.pipe (m:MK) (s:Bs):EX×MK:=match tQ s with
 |(x,e)=>(x,if e≠0 then m.fail e else m)
def wIf:Bs:= [105,102]
def sL:Bs:= [119,105,116,104]
def AL:Bs:= [114,97,110,103,101]
def tT:Bs:= [100,101,102,105,110,101]
def jn:Bs:= [101,108,115,101]
def rF:Bs:= [101,110,100]
def ck (s:Bs):Bs:=s.drop (nmL s).length
def fR (s:Bs):Bs×Bs×Bs:=match nh s with
 |(key,rest,b)=>if (b&&([44]:Bs).isPrefixOf rest)=true then (match iJ (rest.drop 1) with
  |(name,more,g)=>if g=true then (key,name,more) else ([],[],s))
  else (match iJ s with
   |(name,more,g)=>if g=true then ([],name,more) else ([],[],s))
def eY (m:MK) (w s:Bs):ND×MK:=
 if w=wIf then (.mk 2 ⟨#[]⟩ (m.pipe s).1 ⟨#[]⟩ ⟨#[]⟩ [] [],(m.pipe s).2)
 else if w=sL then (.mk 3 ⟨#[]⟩ (m.pipe s).1 ⟨#[]⟩ ⟨#[]⟩ [] [],(m.pipe s).2)
 else if w=tT then (match tQ s with
  |(x,e)=>(.mk 6 ⟨#[]⟩ EX.null ⟨#[]⟩ x.v.s [] [],if e≠0∨x.kind≠0∨x.v.kind≠3∨JT x.v.s.data.toList=false∨1<m.deep then m.fail (if e=0 then 22 else e) else m))
 else (.mk 4 ⟨#[]⟩ (m.pipe (fR s).2.2).1 (toB (fR s).1) (toB (fR s).2.1) [] [],(m.pipe (fR s).2.2).2)
inductive NM where
 |nodes (out:List ND)
 |block (w s:Bs)
def ndF:Nat→NM→MK→List ND×Bs×Bs×MK
 |0,_,m=>([],[],[],m)
 |n+1,.nodes out,m=>match m.l[m.at_]? with
  |none=>(out,[],[],m)
  |some t=>
   let g:MK:=⟨m.l,m.at_+1,m.deep,m.bad⟩
   if t.act=false then ndF n (.nodes (out++ [.mk 0 (toB t.s) EX.null ⟨#[]⟩ ⟨#[]⟩ [] []])) g
   else if nmL t.s=rF∨nmL t.s=jn then (out,nmL t.s,ck t.s,g)
   else if nmL t.s=wIf∨nmL t.s=sL∨nmL t.s=AL∨nmL t.s=tT then (match ndF n (.block (nmL t.s) (ck t.s)) g with
    |(b,_,_,C)=>ndF n (.nodes (out++b)) C)
   else match iJ t.s with
    |(name,rest,true)=>ndF n (.nodes (out++ [.mk 5 ⟨#[]⟩ (g.pipe rest).1 ⟨#[]⟩ (toB name) [] []])) (g.pipe rest).2
    |(_,_,false)=>ndF n (.nodes (out++ [.mk 1 ⟨#[]⟩ (g.pipe t.s).1 ⟨#[]⟩ ⟨#[]⟩ [] []])) (g.pipe t.s).2
 |n+1,.block w s,m=>
  let g:MK:=⟨m.l,m.at_,IntKind.i64.wrap (m.deep+1),m.bad⟩
  if 16<g.deep then ([ND.null],[],[],g.fail 5)
  else
   let h:=eY g w s
   match ndF n (.nodes []) h.2 with
   |(body,stop,rest,C)=>
    if stop=jn∧w=wIf∧nmL (tlw rest)=wIf then (match ndF n (.block wIf (ck (tlw rest))) C with
     |(b,_,_,j)=>([.mk h.1.kind h.1.text h.1.e h.1.key h.1.name body b],[],[],⟨j.l,j.at_,IntKind.i64.wrap (j.deep-1),j.bad⟩))
    else if stop=jn∧w≠tT∧tlw rest= [] then (match ndF n (.nodes []) C with
     |(els,p,r,j)=>
      let i:=if p≠rF∨tlw r≠ [] then j.fail 21 else j
      ([.mk h.1.kind h.1.text h.1.e h.1.key h.1.name body els],[],[],⟨i.l,i.at_,IntKind.i64.wrap (i.deep-1),i.bad⟩))
    else
     let i:=if stop≠rF∨tlw rest≠ [] then C.fail 21 else C
     ([.mk h.1.kind h.1.text h.1.e h.1.key h.1.name body []],[],[],⟨i.l,i.at_,IntKind.i64.wrap (i.deep-1),i.bad⟩)
def cy (s:Bs):List ND×Int:=match cV s with
 |(l,e)=>if e≠0 then ([],e) else match ndF (3*l.length+3) (.nodes []) ⟨l,0,0,0⟩ with
  |(out,stop,_,m)=>if stop≠ []∧m.bad=0 then ([],21) else if m.bad≠0 then ([],m.bad) else (out,0)
end Go.Proofs.YtbgflifmanjpjaaGreatDoor
