/- Part 36. -/
import Derived.Test.YtbgflifmanjpjaaGreatDoorS35
import Derived.Lib.SlTrimSet
set_option linter.unusedSimpArgs false
set_option linter.unusedVariables false
namespace Go.Proofs.YtbgflifmanjpjaaGreatDoor
section
open Go.RowKit
structure Tok where
 act:Bool
 s:Bs
 at_:Nat
def wsB:Bs:= [32,9,10]
def tlw (s:Bs):Bs:=Lib.trimLeftS s wsB
def trw (s:Bs):Bs:=Lib.trimRightS s wsB
def tmw (s:Bs):Bs:=Lib.trimS s wsB
def rK (s:Bs):Nat→Nat→Nat
 |0,i=>i
 |n+1,i=>match s.drop i with
  | []=>i
  |c::_=>if c=34 then i else rK s n (if c=92 then i+1+1 else i+1)
def gV (s:Bs):Nat→Nat→Option Nat
 |0,_=>none
 |n+1,i=>match s.drop i with
  | []=>none
  |c::t=>if ([125,125]:Bs).isPrefixOf (c::t)=true then some i else if c=34 then gV s n (rK s (s.length+1) (i+1)+1) else gV s n (i+1)
def jX (s:Bs) (i:Nat):Option Nat:=gV s (s.length+1) i
def bo (l:List Tok) (t:Tok):List Tok:=match t.s with
 | []=>l
 |_=>l++ [t]
def rL (i:Bs):Bool:=i== [45]||([45,32]:Bs).isPrefixOf i
def inA (i:Bs):Bs:=if rL i=true then i.drop 1 else i
def vG (i:Bs):Bool:=Lib.hasSuffix (inA i) [32,45]
def cn (i:Bs):Bs:=tmw (if vG i=true then (inA i).take ((inA i).length-2) else inA i)
def xW (w:Bs):Bool:=([47,42]:Bs).isPrefixOf w&&Lib.hasSuffix w [42,47]&&decide (4≤w.length)
def aX (cut:Bool) (t:Bs):Bs:=if cut=true then tlw t else t
def oh (s:Bs):Nat→Nat→Bool→List Tok→Option (List Tok)
 |0,_,_,_=>none
 |n+1,a,cut,out=>if s.length≤a then some out
  else if Lib.index (s.drop a) [123,123]<0 then some (bo out ⟨false,aX cut (s.drop a),a+((s.drop a).length-(aX cut (s.drop a)).length)⟩)
  else
   let t:=(s.drop a).take (Lib.index (s.drop a) [123,123]).toNat
   let op:=(Lib.index (s.drop a) [123,123]).toNat+a
   match jX s (op+2) with
   |none=>none
   |some e=>
    let i:=(s.take e).drop (op+2)
    let g:=bo out ⟨false,if rL i=true then trw (aX cut t) else aX cut t,a+(t.length-(aX cut t).length)⟩
    oh s n (e+2) (vG i) (if xW (cn i)=true then g else g++ [⟨true,cn i,op⟩])
def resK:Option (List Tok)→List Tok×Int
 |none=>([],21)
 |some l=>(l,0)
def cG (s:Bs):List Tok×Int:=if 65536<s.length then ([],6) else resK (oh s (s.length+1) 0 false [])
def a6 (l:List Tok):List (List AV):=l.map fun t=> [.bool t.act,.str (toB t.s),.int .i64 (t.at_:Int)]
theorem aW (l:List Tok):(a6 l).length=l.length:=List.length_map _
theorem Id {l:List Tok} {k:Nat} {t:Tok} (h:l[k]? =some t):(a6 l)[k]? =some [.bool t.act,.str (toB t.s),.int .i64 (t.at_:Int)]:=by simp [a6,h]
theorem oi (l:List Tok) (t:Tok):a6 (l++ [t])=a6 l++ [[.bool t.act,.str (toB t.s),.int .i64 (t.at_:Int)]]:=by simp [a6]
theorem vH (s:Bs): ∀(n i:Nat),i≤rK s n i
 |0,i=>gA4 _
 |n+1,i=>by
  unfold rK;split
  ·exact gA4 _
  ·split
   ·exact gA4 _
   ·refine gB7 ?_ (vH s n _)
    split<;>omega
theorem ol (s:Bs): ∀(n i e:Nat),gV s n i=some e→i≤e∧e+2≤s.length
 |0,_,_,h=>by cases h
 |n+1,i,e,h=>by
  unfold gV at h;split at h
  ·cases h
  ·rename_i c t j
   split at h
   ·rename_i p
    cases h;refine ⟨gA4 _,?_⟩;have g:=(List.isPrefixOf_iff_prefix.1 p).length_le;rw [←j,gA6] at g;simp only [gA3,List.length_nil] at g;omega
   ·split at h
    ·have r:=ol s n _ e h
     have C:=vH s (s.length+1) (i+1);omega
    ·have r:=ol s n _ e h
     omega
theorem vI {s:Bs} {i e:Nat} (h:jX s i=some e):i≤e∧e+2≤s.length:=ol s _ i e h
theorem xX (s cs:Bs):(Lib.trimLeftS s cs).length≤s.length:=(List.dropWhile_sublist _).length_le
theorem xY (s cs:Bs):(Lib.trimRightS s cs).length≤s.length:=by
 unfold Lib.trimRightS;rw [List.length_reverse];have:=(List.dropWhile_sublist (p:=(cs.contains ·)) (l:=s.reverse)).length_le;simpa using this
theorem cu (s:Bs):(tlw s).length≤s.length:=xX _ _
theorem JJ (s:Bs):(trw s).length≤s.length:=xY _ _
theorem EI (s:Bs):(tmw s).length≤s.length:=gB7 (xX _ _) (xY _ _)
theorem qS (c:Bool) (s:Bs):(aX c s).length≤s.length:=by
 unfold aX;split
 ·exact cu s
 ·exact gA4 _
theorem vJ (l:List Tok) (t:Tok):l.length≤(bo l t).length∧(bo l t).length≤l.length+1:=by
 unfold bo;split<;>simp
inductive EX where
 |mk (kind:Nat) (v:V) (name:ByteArray) (steps:List ByteArray) (args:List EX)
def EX.kind:EX→Nat
 | .mk k _ _ _ _=>k
def EX.v:EX→V
 | .mk _ v _ _ _=>v
def EX.name:EX→ByteArray
 | .mk _ _ n _ _=>n
def EX.steps:EX→List ByteArray
 | .mk _ _ _ s _=>s
def EX.args:EX→List EX
 | .mk _ _ _ _ a=>a
def EX.null:EX:= .mk 0 V.null ⟨#[]⟩ [] []
def exH (k:Nat) (v:V) (n:ByteArray) (s:List ByteArray):List AV:= [.int .i64 (k:Int),.int .i64 v.kind,.bool v.b,.int .i64 v.n,.str v.s,.lst .any 6 (aM v.l),.lst .any 7 (am v.m),.str n,.lst .any 1 (bJ s)]
mutual
def EX.row:EX→List AV
 | .mk k v n s a=>exH k v n s++ [.lst .any 10 (aP a)]
def aP:List EX→List (List AV)
 | []=> []
 |x::l=>x.row::aP l
end
theorem fT: ∀l:List EX,aP l=l.map EX.row
 | []=>rfl
 |x::l=>by rw [aP,fT l];rfl
theorem bj (l:List EX):(aP l).length=l.length:=by rw [fT,List.length_map]
theorem eP (l:List EX) (x:EX):aP (l++ [x])=aP l++ [x.row]:=by rw [fT,fT,List.map_append];rfl
inductive ND where
 |mk (kind:Nat) (text:ByteArray) (e:EX) (key name:ByteArray) (body els:List ND)
def ND.kind:ND→Nat
 | .mk k _ _ _ _ _ _=>k
def ND.text:ND→ByteArray
 | .mk _ t _ _ _ _ _=>t
def ND.e:ND→EX
 | .mk _ _ e _ _ _ _=>e
def ND.key:ND→ByteArray
 | .mk _ _ _ k _ _ _=>k
def ND.name:ND→ByteArray
 | .mk _ _ _ _ n _ _=>n
def ND.body:ND→List ND
 | .mk _ _ _ _ _ b _=>b
def ND.els:ND→List ND
 | .mk _ _ _ _ _ _ e=>e
def ND.null:ND:= .mk 0 ⟨#[]⟩ EX.null ⟨#[]⟩ ⟨#[]⟩ [] []
def ndH (k:Nat) (t:ByteArray) (e:EX) (key name:ByteArray):List AV:= .int .i64 (k:Int):: .str t::(e.row++ [.str key,.str name])
mutual
def ND.row:ND→List AV
 | .mk k t e key n b l=>ndH k t e key n++ [.lst .any 16 (aU b),.lst .any 16 (aU l)]
def aU:List ND→List (List AV)
 | []=> []
 |x::l=>x.row::aU l
end
theorem iX: ∀l:List ND,aU l=l.map ND.row
 | []=>rfl
 |x::l=>by rw [aU,iX l];rfl
theorem fU (l:List ND):(aU l).length=l.length:=by rw [iX,List.length_map]
theorem Ie {l:List ND} {k:Nat} {x:ND} (h:l[k]? =some x):(aU l)[k]? =some x.row:=by rw [iX,gA8,h];rfl
theorem DC (l:List ND) (x:ND):aU (l++ [x])=aU l++ [x.row]:=by rw [iX,iX,List.map_append];rfl
def gI (c:UInt8):Bool:=(decide (97≤c)&&decide (c≤122))||(decide (65≤c)&&decide (c≤90))||c==95
def mO (c:UInt8):Bool:=gI c||(decide (48≤c)&&decide (c≤57))
def wF (c:UInt8):Bool:=decide (48≤c)&&decide (c≤57)
def nmL:Bs→Bs
 | []=> []
 |c::t=>if gI c=true then c::t.takeWhile mO else []
def If (s:Bs):Bool:=decide (nmL s=s)&& !s.isEmpty&&decide (s.length≤256)
def be:Nat→Bs→List ByteArray×Bs
 |0,s=>([],s)
 |n+1,s=>match s with
  |d::c::t=>if d=46∧gI c=true then (toB (nmL (c::t))::(be n ((c::t).drop (nmL (c::t)).length)).1,(be n ((c::t).drop (nmL (c::t)).length)).2) else ([],s)
  |_=>([],s)
structure RD where
 s:Bs
 deep:Int
 bad:Int
def RD.fail (r:RD) (e:Int):RD:=⟨[],r.deep,if r.bad=0 then e else r.bad⟩
def RD.skip (r:RD):RD:=⟨tlw r.s,r.deep,r.bad⟩
def RD.to (r:RD) (s:Bs):RD:=⟨s,r.deep,r.bad⟩
def gJ:Bs→Nat
 | []=>1
 |_::t=>1+(t.takeWhile wF).length
def qT (r:RD):EX×RD:=match bn (toB (r.s.take (gJ r.s))) with
 |(v,e)=>if e≠0∨v.kind≠2 then (EX.null,r.fail (if e=0 then 20 else e)) else (.mk 0 v ⟨#[]⟩ [] [],r.to (r.s.drop (gJ r.s)))
inductive PM where
 |operand
 |command
 |args (name:ByteArray) (out:List EX)
 |pipe
 |bars (x:EX)
def wTr:Bs:= [116,114,117,101]
def wFa:Bs:= [102,97,108,115,101]
def wNi:Bs:= [110,105,108]
def exF:Nat→PM→RD→EX×Bool×RD
 |0,_,r=>(EX.null,false,r)
 |n+1,.operand,r=>match tlw r.s with
  | []=>(EX.null,false,r.skip)
  |c::t=>
   if c=34 then (match lr (c::t) with
    |none=>(EX.null,true,r.fail 11)
    |some (x,rest)=>(.mk 0 (V.str (toB x)) ⟨#[]⟩ [] [],true,r.to rest))
   else if c=45∨wF c=true then (((qT r.skip).1,true,(qT r.skip).2))
   else if c=46 then (.mk 1 V.null ⟨#[]⟩ (be (c::t).length (c::t)).1 [],true,r.to (if (be (c::t).length (c::t)).1= [] then t else (be (c::t).length (c::t)).2))
   else if c=36 then (if nmL t= [] then (EX.null,true,r.fail 20)
    else (.mk 2 V.null (toB (nmL t)) (be t.length (t.drop (nmL t).length)).1 [],true,r.to (be t.length (t.drop (nmL t).length)).2))
   else if c=40 then (if 16<IntKind.i64.wrap (r.deep+1) then (EX.null,true,(⟨c::t,IntKind.i64.wrap (r.deep+1),r.bad⟩:RD).fail 5)
    else match exF n .pipe ⟨t,IntKind.i64.wrap (r.deep+1),r.bad⟩ with
     |(x,_,g)=>match tlw g.s with
      | []=>(EX.null,true,g.fail 20)
      |d::u=>if d=41 then (x,true,⟨u,IntKind.i64.wrap (g.deep-1),g.bad⟩) else (EX.null,true,g.fail 20))
   else if gI c=true then
    (if nmL (c::t)=wTr∨nmL (c::t)=wFa then (.mk 0 (V.bool (c==116)) ⟨#[]⟩ [] [],true,r.to ((c::t).drop (nmL (c::t)).length))
    else if nmL (c::t)=wNi then (EX.null,true,r.to ((c::t).drop (nmL (c::t)).length))
    else (EX.null,false,r.skip))
   else (EX.null,false,r.skip)
 |n+1,.command,r=>match exF n .operand r with
  |(x,true,g)=>(x,true,g)
  |(_,false,g)=>if nmL g.s= [] then (EX.null,true,g.fail 20) else exF n (.args (toB (nmL g.s)) []) (g.to (g.s.drop (nmL g.s).length))
 |n+1,.args name out,r=>match exF n .operand r with
  |(x,true,g)=>exF n (.args name (out++ [x])) g
  |(_,false,g)=>if nmL g.s= [] then (.mk 3 V.null name [] out,true,g) else exF n (.args name (out++ [.mk 3 V.null (toB (nmL g.s)) [] []])) (g.to (g.s.drop (nmL g.s).length))
 |n+1,.pipe,r=>match exF n .command r with
  |(x,_,g)=>exF n (.bars x) g
 |n+1,.bars x,r=>match tlw r.s with
  | []=>(x,true,r.skip)
  |c::t=>if c=124 then (match exF n .command (r.to t) with
   |(y,_,g)=>if y.kind≠3∧g.bad=0 then (EX.null,true,g.fail 20) else exF n (.bars (.mk y.kind y.v y.name y.steps (y.args++ [x]))) g)
   else (x,true,r.skip)
def sY (s:Bs):EX×Int:=match exF (4*s.length+4) .pipe ⟨s,0,0⟩ with
 |(x,_,r)=>if r.bad≠0 then (EX.null,r.bad) else if tlw r.s≠ [] then (EX.null,20) else (x,0)
def JK (s:Bs):Option (Bs×Bs):=match tlw s with
 | []=>none
 |c::t=>if c=36 then some (nmL t,tlw (t.drop (nmL t).length)) else none
def mP (s:Bs):Bs×Bs×Bool:=match JK s with
 |none=>([],[],false)
 |some (n,r)=>(n,r, !n.isEmpty)
def ig (s:Bs):Bs×Bs×Bool:=match mP s with
 |(n,r,false)=>(n,r,false)
 |(n,r,true)=>if ([58,61]:Bs).isPrefixOf r=true then (n,r.drop 2,true) else (n,r,false)
structure MK where
 l:List Tok
 at_:Nat
 deep:Int
 bad:Int
def MK.fail (m:MK) (e:Int):MK:=⟨m.l,m.l.length,m.deep,if m.bad=0 then e else m.bad⟩
def MK.pipe (m:MK) (s:Bs):EX×MK:=match sY s with
 |(x,e)=>(x,if e≠0 then m.fail e else m)
def wIf:Bs:= [105,102]
def rM:Bs:= [119,105,116,104]
def zt:Bs:= [114,97,110,103,101]
def sZ:Bs:= [100,101,102,105,110,101]
def iY:Bs:= [101,108,115,101]
def qU:Bs:= [101,110,100]
def bZ (s:Bs):Bs:=s.drop (nmL s).length
def ft (s:Bs):Bs×Bs×Bs:=match mP s with
 |(key,rest,b)=>if (b&&([44]:Bs).isPrefixOf rest)=true then (match ig (rest.drop 1) with
  |(name,more,g)=>if g=true then (key,name,more) else ([],[],s))
  else (match ig s with
   |(name,more,g)=>if g=true then ([],name,more) else ([],[],s))
def eH (m:MK) (w s:Bs):ND×MK:=
 if w=wIf then (.mk 2 ⟨#[]⟩ (m.pipe s).1 ⟨#[]⟩ ⟨#[]⟩ [] [],(m.pipe s).2)
 else if w=rM then (.mk 3 ⟨#[]⟩ (m.pipe s).1 ⟨#[]⟩ ⟨#[]⟩ [] [],(m.pipe s).2)
 else if w=sZ then (match sY s with
  |(x,e)=>(.mk 6 ⟨#[]⟩ EX.null ⟨#[]⟩ x.v.s [] [],if e≠0∨x.kind≠0∨x.v.kind≠3∨If x.v.s.data.toList=false∨1<m.deep then m.fail (if e=0 then 22 else e) else m))
 else (.mk 4 ⟨#[]⟩ (m.pipe (ft s).2.2).1 (toB (ft s).1) (toB (ft s).2.1) [] [],(m.pipe (ft s).2.2).2)
inductive NM where
 |nodes (out:List ND)
 |block (w s:Bs)
def ndF:Nat→NM→MK→List ND×Bs×Bs×MK
 |0,_,m=>([],[],[],m)
 |n+1,.nodes out,m=>match m.l[m.at_]? with
  |none=>(out,[],[],m)
  |some t=>
   let g:MK:=⟨m.l,m.at_+1,m.deep,m.bad⟩
   if t.act=false then ndF n (.nodes (out++ [.mk 0 (toB t.s) EX.null ⟨#[]⟩ ⟨#[]⟩ [] []])) g
   else if nmL t.s=qU∨nmL t.s=iY then (out,nmL t.s,bZ t.s,g)
   else if nmL t.s=wIf∨nmL t.s=rM∨nmL t.s=zt∨nmL t.s=sZ then (match ndF n (.block (nmL t.s) (bZ t.s)) g with
    |(b,_,_,C)=>ndF n (.nodes (out++b)) C)
   else match ig t.s with
    |(name,rest,true)=>ndF n (.nodes (out++ [.mk 5 ⟨#[]⟩ (g.pipe rest).1 ⟨#[]⟩ (toB name) [] []])) (g.pipe rest).2
    |(_,_,false)=>ndF n (.nodes (out++ [.mk 1 ⟨#[]⟩ (g.pipe t.s).1 ⟨#[]⟩ ⟨#[]⟩ [] []])) (g.pipe t.s).2
 |n+1,.block w s,m=>
  let g:MK:=⟨m.l,m.at_,IntKind.i64.wrap (m.deep+1),m.bad⟩
  if 16<g.deep then ([ND.null],[],[],g.fail 5)
  else
   let h:=eH g w s
   match ndF n (.nodes []) h.2 with
   |(body,stop,rest,C)=>
    if stop=iY∧w=wIf∧nmL (tlw rest)=wIf then (match ndF n (.block wIf (bZ (tlw rest))) C with
     |(b,_,_,j)=>([.mk h.1.kind h.1.text h.1.e h.1.key h.1.name body b],[],[],⟨j.l,j.at_,IntKind.i64.wrap (j.deep-1),j.bad⟩))
    else if stop=iY∧w≠sZ∧tlw rest= [] then (match ndF n (.nodes []) C with
     |(els,p,r,j)=>
      let i:=if p≠qU∨tlw r≠ [] then j.fail 21 else j
      ([.mk h.1.kind h.1.text h.1.e h.1.key h.1.name body els],[],[],⟨i.l,i.at_,IntKind.i64.wrap (i.deep-1),i.bad⟩))
    else
     let i:=if stop≠qU∨tlw rest≠ [] then C.fail 21 else C
     ([.mk h.1.kind h.1.text h.1.e h.1.key h.1.name body []],[],[],⟨i.l,i.at_,IntKind.i64.wrap (i.deep-1),i.bad⟩)
def bL (s:Bs):List ND×Int:=match cG s with
 |(l,e)=>if e≠0 then ([],e) else match ndF (3*l.length+3) (.nodes []) ⟨l,0,0,0⟩ with
  |(out,stop,_,m)=>if stop≠ []∧m.bad=0 then ([],21) else if m.bad≠0 then ([],m.bad) else (out,0)
theorem fL (s:Bs):(nmL s).length≤s.length:=by
 unfold nmL;split
 ·exact gA4 _
 ·split
  ·have:=(List.takeWhile_sublist (p:=mO) (l:= ‹Bs›)).length_le
   simp only [gA3];omega
  ·exact gB8 _
theorem gW {s:Bs} (h:nmL s≠ []):0<(nmL s).length:=by
 cases g:nmL s with
 |nil=>exact absurd g h
 |cons c t=>simp
theorem zu {c:UInt8} {t:Bs} (h:gI c=true):nmL (c::t)≠ []:=by
 unfold nmL;dsimp only;rw [if_pos h];simp
theorem om: ∀(n:Nat) (s:Bs),(be n s).2.length≤s.length∧((be n s).1≠ []→(be n s).2.length+2≤s.length)
 |0,s=>⟨gA4 _,fun h=>absurd rfl h⟩
 |n+1,[]=>⟨gA4 _,fun h=>absurd rfl h⟩
 |n+1,[d]=>⟨gA4 _,fun h=>absurd rfl h⟩
 |n+1,d::c::t=>by
  unfold be;dsimp only;split
  ·rename_i h
   have g:=(om n ((c::t).drop (nmL (c::t)).length)).1;have i:=gW (zu (t:=t) h.2);rw [gA6] at g;simp only [gA3] at g⊢;exact ⟨by omega,fun _=>by omega⟩
  ·exact ⟨gA4 _,fun h=>absurd rfl h⟩
theorem BK (s:Bs):1≤gJ s:=by
 unfold gJ;split<;>omega
theorem JL {c:UInt8} {t:Bs}:gJ (c::t)≤(c::t).length:=by
 have:=(List.takeWhile_sublist (p:=wF) (l:=t)).length_le;simp only [gJ,gA3];omega
def PM.base:PM→Nat
 | .args _ out=>out.length
 | .bars x=>x.args.length
 |_=>0
theorem BM (r:RD) {c:UInt8} {t:Bs} (h:r.s=c::t):(qT r).1.args.length=0∧(qT r).2.s.length<r.s.length:=by
 have i:=BK r.s;have g:0<r.s.length:=by rw [h];simp
 unfold qT;generalize bn (toB (r.s.take (gJ r.s)))=q;obtain ⟨v,e⟩:=q;dsimp only;split
 ·exact ⟨rfl,g⟩
 ·refine ⟨rfl,?_⟩
  show (r.s.drop (gJ r.s)).length<_;rw [gA6];omega
theorem bD: ∀(n:Nat) (m:PM) (r:RD),(exF n m r).1.args.length+(exF n m r).2.2.s.length≤m.base+r.s.length∧(m= .operand→(exF n m r).2.1=true→(exF n m r).2.2.s.length<r.s.length)
 |0,m,r=>⟨by show 0+r.s.length≤_;omega,fun _ h=>by cases h⟩
 |n+1,.operand,r=>by
  have hl:=cu r.s;unfold exF;cases T:tlw r.s with
  |nil=>exact ⟨by show 0+(tlw r.s).length≤0+_;omega,fun _ h=>by cases h⟩
  |cons c t=>
   have J:=hl;rw [T,gA3] at J;have i: ∀(x:EX) (g:RD) (b:Bool),x.args.length=0→g.s.length<r.s.length→x.args.length+g.s.length≤PM.base .operand+r.s.length∧(PM.operand= .operand→b=true→g.s.length<r.s.length):=fun x g b C j=>⟨by show _≤0+_;omega,fun _ _=>j⟩
   have I: ∀g:RD,g.s.length≤r.s.length→EX.null.args.length+g.s.length≤PM.base .operand+r.s.length∧(PM.operand= .operand→false=true→g.s.length<r.s.length):=fun g h=>⟨by show 0+_≤0+_;omega,fun _ h=>by cases h⟩
   dsimp only;split
   ·cases hu:lr (c::t) with
    |none=>exact i EX.null (r.fail 11) true rfl (by show 0<_;omega)
    |some p=>
     obtain ⟨x,rest⟩:=p;have C:=gT hu;rw [gA3] at C;exact i (.mk 0 (V.str (toB x)) ⟨#[]⟩ [] []) (r.to rest) true rfl (by show rest.length<_;omega)
   ·split
    ·have C:=BM r.skip (c:=c) (t:=t) T
     have j:r.skip.s.length≤r.s.length:=hl;exact i (qT r.skip).1 (qT r.skip).2 true C.1 (by omega)
    ·split
     ·have C:=om (c::t).length (c::t)
      simp only [gA3] at C;refine i _ (r.to _) true rfl ?_;show (if _ then t else _).length<_;split
      ·omega
      ·rename_i U
       have:=C.2 U;show (be (t.length+1) (c::t)).2.length<_;omega
     ·split
      ·split
       ·exact i _ (r.fail 20) true rfl (by show 0<_;omega)
       ·have C:=(om t.length (t.drop (nmL t).length)).1
        rw [gA6] at C;exact i _ (r.to _) true rfl (by show (be t.length (t.drop (nmL t).length)).2.length<_;omega)
      ·split
       ·split
        ·exact i _ ((⟨c::t,IntKind.i64.wrap (r.deep+1),r.bad⟩:RD).fail 5) true rfl (by show 0<_;omega)
        ·have ih:=(bD n .pipe ⟨t,IntKind.i64.wrap (r.deep+1),r.bad⟩).1
         generalize exF n .pipe ⟨t,IntKind.i64.wrap (r.deep+1),r.bad⟩=q at ih;obtain ⟨x,b,g⟩:=q;have ih:x.args.length+g.s.length≤0+t.length:=ih;have hl1:=cu g.s;dsimp only;cases hs1:tlw g.s with
         |nil=>exact i EX.null (g.fail 20) true rfl (by show 0<_;omega)
         |cons d u=>
          rw [hs1,gA3] at hl1;dsimp only;split
          ·exact ⟨by show x.args.length+u.length≤0+_;omega,fun _ _=>by show u.length<_;omega⟩
          ·exact i EX.null (g.fail 20) true rfl (by show 0<_;omega)
       ·split
        ·rename_i R
         have C:=gW (zu (t:=t) R);have j:((c::t).drop (nmL (c::t)).length).length<r.s.length:=by rw [gA6,gA3];omega
         split
         ·exact i _ (r.to _) true rfl j
         ·split
          ·exact i EX.null (r.to _) true rfl j
          ·exact I r.skip hl
        ·exact I r.skip hl
 |n+1,.command,r=>by
  unfold exF;have ih:=bD n .operand r;generalize exF n .operand r=q at ih;obtain ⟨x,b,g⟩:=q;obtain ⟨P,i2⟩:=ih;have P:x.args.length+g.s.length≤0+r.s.length:=P;cases b with
  |true=>exact ⟨P,fun h=>by cases h⟩
  |false=>
   dsimp only;split
   ·exact ⟨by show 0+0≤_;omega,fun h=>by cases h⟩
   ·have j:=(bD n (.args (toB (nmL g.s)) []) (g.to (g.s.drop (nmL g.s).length))).1
    have h3:(g.to (g.s.drop (nmL g.s).length)).s.length≤g.s.length:=by show (g.s.drop _).length≤_;rw [gA6];omega
    have h4:PM.base (.args (toB (nmL g.s)) [])=0:=rfl;exact ⟨by show _≤0+_;omega,fun h=>by cases h⟩
 |n+1,.args name out,r=>by
  unfold exF;have ih:=bD n .operand r;generalize exF n .operand r=q at ih;obtain ⟨x,b,g⟩:=q;obtain ⟨P,i2⟩:=ih;have P:x.args.length+g.s.length≤0+r.s.length:=P;have e1: ∀y:EX,PM.base (.args name (out++ [y]))=out.length+1:=fun y=>by show (out++ [y]).length=_;simp
  cases b with
  |true=>
   have i2:g.s.length<r.s.length:=i2 rfl rfl;have j:=(bD n (.args name (out++ [x])) g).1;rw [e1] at j;dsimp only;exact ⟨by show _≤out.length+_;omega,fun h=>by cases h⟩
  |false=>
   dsimp only;split
   ·exact ⟨by show out.length+g.s.length≤out.length+_;omega,fun h=>by cases h⟩
   ·rename_i hn
    have C:=gW hn;have h0:=fL g.s;have j:=(bD n (.args name (out++ [.mk 3 V.null (toB (nmL g.s)) [] []])) (g.to (g.s.drop (nmL g.s).length))).1;rw [e1] at j;have h3:(g.to (g.s.drop (nmL g.s).length)).s.length+1≤g.s.length:=by show (g.s.drop _).length+1≤_;rw [gA6];omega
    exact ⟨by show _≤out.length+_;omega,fun h=>by cases h⟩
 |n+1,.pipe,r=>by
  unfold exF;have ih:=(bD n .command r).1;generalize exF n .command r=q at ih;obtain ⟨x,b,g⟩:=q;have ih:x.args.length+g.s.length≤0+r.s.length:=ih;have j:=(bD n (.bars x) g).1;have h3:PM.base (.bars x)=x.args.length:=rfl;exact ⟨by show _≤0+_;dsimp only;omega,fun h=>by cases h⟩
 |n+1,.bars x,r=>by
  have hl:=cu r.s;unfold exF;cases T:tlw r.s with
  |nil=>exact ⟨by show x.args.length+(tlw r.s).length≤x.args.length+_;omega,fun h=>by cases h⟩
  |cons c t=>
   have J:=hl;rw [T,gA3] at J;dsimp only;split
   ·have ih:=(bD n .command (r.to t)).1
    generalize exF n .command (r.to t)=q at ih;obtain ⟨y,b,g⟩:=q;have ih:y.args.length+g.s.length≤0+t.length:=ih;dsimp only;split
    ·exact ⟨by show 0+0≤_;omega,fun h=>by cases h⟩
    ·have j:=(bD n (.bars (.mk y.kind y.v y.name y.steps (y.args++ [x]))) g).1
     have h3:PM.base (.bars (.mk y.kind y.v y.name y.steps (y.args++ [x])))=y.args.length+1:=by show (y.args++ [x]).length=_;simp
     exact ⟨by show _≤x.args.length+_;omega,fun h=>by cases h⟩
   ·exact ⟨by show x.args.length+(tlw r.s).length≤x.args.length+_;omega,fun h=>by cases h⟩
theorem MK.pipe_at (m:MK) (s:Bs):(m.pipe s).2.l=m.l∧m.at_≤m.l.length→(m.pipe s).2.l=m.l∧m.at_≤(m.pipe s).2.at_∧(m.pipe s).2.at_≤m.l.length:=by
 intro ⟨i,g⟩;refine ⟨i,?_⟩;unfold MK.pipe;generalize sY s=q;obtain ⟨x,e⟩:=q;dsimp only;split
 ·exact ⟨g,gA4 _⟩
 ·exact ⟨gA4 _,g⟩
theorem MK.pipe_l (m:MK) (s:Bs):(m.pipe s).2.l=m.l:=by
 unfold MK.pipe;generalize sY s=q;obtain ⟨x,e⟩:=q;dsimp only;split<;>rfl
theorem BN (m:MK) (w s:Bs) (g:m.at_≤m.l.length):(eH m w s).2.l=m.l∧m.at_≤(eH m w s).2.at_∧(eH m w s).2.at_≤m.l.length:=by
 have i:=fun s=>m.pipe_at s ⟨m.pipe_l s,g⟩
 unfold eH;split
 ·exact i s
 ·split
  ·exact i s
  ·split
   ·generalize sY s=q
    obtain ⟨x,e⟩:=q;dsimp only;split
    ·exact ⟨rfl,g,gA4 _⟩
    ·exact ⟨rfl,gA4 _,g⟩
   ·exact i _
theorem eu: ∀(n:Nat) (k:NM) (m:MK),m.at_≤m.l.length→(ndF n k m).2.2.2.l=m.l∧m.at_≤(ndF n k m).2.2.2.at_∧(ndF n k m).2.2.2.at_≤m.l.length∧(∀out,k= .nodes out→(ndF n k m).1.length+m.at_≤out.length+(ndF n k m).2.2.2.at_∧((ndF n k m).2.1≠ []→m.at_+1≤(ndF n k m).2.2.2.at_))∧(∀w s,k= .block w s→0<n→(ndF n k m).1.length=1)
 |0,k,m,h=>⟨rfl,gA4 _,h,fun out hk=>⟨by show 0+m.at_≤out.length+m.at_;omega,fun h=>absurd rfl h⟩,fun w s _ h=>by cases h⟩
 |n+1,.nodes out,m,h=>by
  unfold ndF;cases hx:m.l[m.at_]? with
  |none=>exact ⟨rfl,gA4 _,h,fun o e=>by cases e;exact ⟨gA4 _,fun h=>absurd rfl h⟩,fun w s e=>by cases e⟩
  |some t=>
   have hl:=(gA0 hx).1;dsimp only
   have on: ∀(x:ND) (g:MK),g.l=m.l→m.at_+1≤g.at_→g.at_≤m.l.length→(ndF n (.nodes (out++ [x])) g).2.2.2.l=m.l∧m.at_≤(ndF n (.nodes (out++ [x])) g).2.2.2.at_∧(ndF n (.nodes (out++ [x])) g).2.2.2.at_≤m.l.length∧(∀o,NM.nodes out= .nodes o→(ndF n (.nodes (out++ [x])) g).1.length+m.at_≤o.length+(ndF n (.nodes (out++ [x])) g).2.2.2.at_∧((ndF n (.nodes (out++ [x])) g).2.1≠ []→m.at_+1≤(ndF n (.nodes (out++ [x])) g).2.2.2.at_))∧(∀w s,NM.nodes out= .block w s→0<n+1→(ndF n (.nodes (out++ [x])) g).1.length=1):=fun x g J e2 T=>by
    obtain ⟨p,i2,i3,i4,_⟩:=eu n (.nodes (out++ [x])) g (by rw [J];exact T);have i4:=(i4 _ rfl).1;rw [J] at p i3;rw [gA5,List.length_singleton] at i4;exact ⟨p,by omega,i3,fun o e=>by cases e;exact ⟨by omega,fun _=>by omega⟩,fun w s e=>by cases e⟩
   split
   ·exact on _ ⟨m.l,m.at_+1,m.deep,m.bad⟩ rfl (gA4 _) hl
   ·split
    ·exact ⟨rfl,Nat.le_succ _,hl,fun o e=>by cases e;exact ⟨by show out.length+m.at_≤out.length+(m.at_+1);omega,fun _=>gA4 _⟩,fun w s e=>by cases e⟩
    ·split
     ·obtain ⟨i,C,j,_,U⟩:=eu n (.block (nmL t.s) (bZ t.s)) ⟨m.l,m.at_+1,m.deep,m.bad⟩ hl
      generalize ndF n (.block (nmL t.s) (bZ t.s)) ⟨m.l,m.at_+1,m.deep,m.bad⟩=q at i C j U;obtain ⟨b,st,re,g⟩:=q;dsimp only at i C j U⊢;cases n with
      |zero=>exact ⟨i,by show m.at_≤g.at_;omega,j,fun o e=>by cases e;exact ⟨by show 0+m.at_≤out.length+g.at_;omega,fun h=>absurd rfl h⟩,fun w s e=>by cases e⟩
      |succ n=>
       have hb:=U _ _ rfl (Nat.succ_pos _);obtain ⟨x,rfl⟩:=List.length_eq_one_iff.1 hb;exact on x g i C j
     ·generalize ig t.s=q
      obtain ⟨name,rest,b⟩:=q;have P:=fun s=>(⟨m.l,m.at_+1,m.deep,m.bad⟩:MK).pipe_at s ⟨MK.pipe_l _ s,hl⟩
      cases b with
      |true=>exact on _ _ (P rest).1 (P rest).2.1 (P rest).2.2
      |false=>exact on _ _ (P t.s).1 (P t.s).2.1 (P t.s).2.2
 |n+1,.block w s,m,h=>by
  unfold ndF;dsimp only;split
  ·exact ⟨rfl,h,gA4 _,fun o e=>(by cases e),fun _ _ _ _=>rfl⟩
  ·obtain ⟨R,h2,h3⟩:=BN ⟨m.l,m.at_,IntKind.i64.wrap (m.deep+1),m.bad⟩ w s h
   generalize eH ⟨m.l,m.at_,IntKind.i64.wrap (m.deep+1),m.bad⟩ w s=hd at R h2 h3;obtain ⟨hn,hm⟩:=hd;dsimp only at R h2 h3⊢;obtain ⟨p,i2,i3,i4,_⟩:=eu n (.nodes []) hm (by rw [R];exact h3);rw [R] at p i3;generalize ndF n (.nodes []) hm=q at p i2 i3 i4;obtain ⟨body,stop,rest,g⟩:=q;dsimp only at p i2 i3⊢
   have close: ∀(r:MK) (c:Prop) [Decidable c] (x:ND),r.l=m.l→m.at_≤r.at_→r.at_≤m.l.length→ ∀I:MK,I=(if c then r.fail 21 else r)→((⟨I.l,I.at_,IntKind.i64.wrap (I.deep-1),I.bad⟩:MK).l=m.l∧m.at_≤I.at_∧I.at_≤m.l.length):=fun r c _ x J e2 T I e=>by
    subst e;split
    ·exact ⟨J,by show m.at_≤r.l.length;rw [J];exact h,by show r.l.length≤_;rw [J];exact gA4 _⟩
    ·exact ⟨J,e2,T⟩
   split
   ·obtain ⟨i,C,j,_,_⟩:=eu n (.block wIf (bZ (tlw rest))) g (by rw [p];exact i3)
    rw [p] at i j;generalize ndF n (.block wIf (bZ (tlw rest))) g=q at i C j;obtain ⟨b,st,re,r⟩:=q;dsimp only at i C j⊢;exact ⟨i,by omega,j,fun o e=>(by cases e),fun _ _ _ _=>rfl⟩
   ·split
    ·obtain ⟨i,C,j,_,_⟩:=eu n (.nodes []) g (by rw [p];exact i3)
     rw [p] at i j;generalize ndF n (.nodes []) g=q at i C j;obtain ⟨els,st,re,r⟩:=q;dsimp only at i C j⊢;obtain ⟨k1,k2,k3⟩:=close r (st≠qU∨tlw re≠ []) ND.null i (by omega) j _ rfl;exact ⟨k1,k2,k3,fun o e=>(by cases e),fun _ _ _ _=>rfl⟩
    ·obtain ⟨k1,k2,k3⟩:=close g (stop≠qU∨tlw rest≠ []) ND.null p (by omega) i3 _ rfl
     exact ⟨k1,k2,k3,fun o e=>(by cases e),fun _ _ _ _=>rfl⟩
end
section
set_option maxRecDepth 100000
set_option maxHeartbeats 20000000
def EJ:List Nat:= [2000216,2000213,2000158,2000290,2000289,2000264,2000245,2000215,2000059,2000112,2000058,2000159,2000110,2000105]
noncomputable def wG:ACode:=bK Tryz.prog EJ Tryz.f106
noncomputable def wH:AFn:=⟨2,44,wG,[.tmp 4]⟩
theorem qW:ar Tryz.prog EJ Tryz.f106=some wH:=kk
theorem qX:ab Tryz.prog 106=true:=kk
end
section
open Go.RowKit
theorem Holds.on {σ:Sg} {w w' :World} (g:Holds σ w) (hb:Below w.heap.size w w'):Holds σ w' :=fun b q v i=>(hb.cell (p:=⟨b,q,none⟩) (World.block_lt_of_cell? w _ (g _ _ _ i))).trans (g _ _ _ i)
end
end Go.Proofs.YtbgflifmanjpjaaGreatDoor
