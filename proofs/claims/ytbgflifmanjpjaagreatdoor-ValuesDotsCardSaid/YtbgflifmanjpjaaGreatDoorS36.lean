/- Part 36. -/
import Derived.Test.YtbgflifmanjpjaaGreatDoorS35
import Derived.Lib.SlTrimSet
set_option linter.unusedSimpArgs false
set_option linter.unusedVariables false
namespace Go.Proofs.YtbgflifmanjpjaaGreatDoor
section
open Go.RowKit
structure Tok where
 act:Bool
 s:Bs
 at_:Nat
def wsB:Bs:= [32,9,10]
def tlw (s:Bs):Bs:=Lib.trimLeftS s wsB
def trw (s:Bs):Bs:=Lib.trimRightS s wsB
def tmw (s:Bs):Bs:=Lib.trimS s wsB
def rQ (s:Bs):Nat→Nat→Nat
 |0,i=>i
 |n+1,i=>match s.drop i with
  | []=>i
  |c::_=>if c=34 then i else rQ s n (if c=92 then i+1+1 else i+1)
def iA (s:Bs):Nat→Nat→Option Nat
 |0,_=>none
 |n+1,i=>match s.drop i with
  | []=>none
  |c::t=>if ([125,125]:Bs).isPrefixOf (c::t)=true then some i else if c=34 then iA s n (rQ s (s.length+1) (i+1)+1) else iA s n (i+1)
def kf (s:Bs) (i:Nat):Option Nat:=iA s (s.length+1) i
def bw (l:List Tok) (t:Tok):List Tok:=match t.s with
 | []=>l
 |_=>l++ [t]
def rR (i:Bs):Bool:=i== [45]||([45,32]:Bs).isPrefixOf i
def inA (i:Bs):Bs:=if rR i=true then i.drop 1 else i
def vN (i:Bs):Bool:=Lib.hasSuffix (inA i) [32,45]
def cv (i:Bs):Bs:=tmw (if vN i=true then (inA i).take ((inA i).length-2) else inA i)
def yi (w:Bs):Bool:=([47,42]:Bs).isPrefixOf w&&Lib.hasSuffix w [42,47]&&decide (4≤w.length)
def a7 (cut:Bool) (t:Bs):Bs:=if cut=true then tlw t else t
def nZ (s:Bs):Nat→Nat→Bool→List Tok→Option (List Tok)
 |0,_,_,_=>none
 |n+1,a,cut,out=>if s.length≤a then some out
  else if Lib.index (s.drop a) [123,123]<0 then some (bw out ⟨false,a7 cut (s.drop a),a+((s.drop a).length-(a7 cut (s.drop a)).length)⟩)
  else
   let t:=(s.drop a).take (Lib.index (s.drop a) [123,123]).toNat
   let op:=(Lib.index (s.drop a) [123,123]).toNat+a
   match kf s (op+2) with
   |none=>none
   |some e=>
    let i:=(s.take e).drop (op+2)
    let g:=bw out ⟨false,if rR i=true then trw (a7 cut t) else a7 cut t,a+(t.length-(a7 cut t).length)⟩
    nZ s n (e+2) (vN i) (if yi (cv i)=true then g else g++ [⟨true,cv i,op⟩])
def LD:Option (List Tok)→List Tok×Int
 |none=>([],21)
 |some l=>(l,0)
def cN (s:Bs):List Tok×Int:=if 65536<s.length then ([],6) else LD (nZ s (s.length+1) 0 false [])
def ba (l:List Tok):List (List AV):=l.map fun t=> [.bool t.act,.str (toB t.s),.int .i64 (t.at_:Int)]
theorem aZ (l:List Tok):(ba l).length=l.length:=List.length_map _
theorem H0 {l:List Tok} {k:Nat} {t:Tok} (h:l[k]? =some t):(ba l)[k]? =some [.bool t.act,.str (toB t.s),.int .i64 (t.at_:Int)]:=by simp [ba,h]
theorem n7 (l:List Tok) (t:Tok):ba (l++ [t])=ba l++ [[.bool t.act,.str (toB t.s),.int .i64 (t.at_:Int)]]:=by simp [ba]
theorem vO (s:Bs): ∀(n i:Nat),i≤rQ s n i
 |0,i=>gA4 _
 |n+1,i=>by
  unfold rQ;split
  ·exact gA4 _
  ·split
   ·exact gA4 _
   ·refine gB7 ?_ (vO s n _)
    split<;>omega
theorem n8 (s:Bs): ∀(n i e:Nat),iA s n i=some e→i≤e∧e+2≤s.length
 |0,_,_,h=>by cases h
 |n+1,i,e,h=>by
  unfold iA at h;split at h
  ·cases h
  ·rename_i c t hd
   split at h
   ·rename_i j
    cases h;refine ⟨gA4 _,?_⟩;have g:=(List.isPrefixOf_iff_prefix.1 j).length_le;rw [←hd,gA6] at g;simp only [gA3,List.length_nil] at g;omega
   ·split at h
    ·have p:=n8 s n _ e h
     have r:=vO s (s.length+1) (i+1);omega
    ·have p:=n8 s n _ e h
     omega
theorem vP {s:Bs} {i e:Nat} (h:kf s i=some e):i≤e∧e+2≤s.length:=n8 s _ i e h
theorem yj (s cs:Bs):(Lib.trimLeftS s cs).length≤s.length:=(List.dropWhile_sublist _).length_le
theorem yk (s cs:Bs):(Lib.trimRightS s cs).length≤s.length:=by
 unfold Lib.trimRightS;rw [List.length_reverse];have:=(List.dropWhile_sublist (p:=(cs.contains ·)) (l:=s.reverse)).length_le;simpa using this
theorem cA (s:Bs):(tlw s).length≤s.length:=yj _ _
theorem JH (s:Bs):(trw s).length≤s.length:=yk _ _
theorem EE (s:Bs):(tmw s).length≤s.length:=gB7 (yj _ _) (yk _ _)
theorem qQ (c:Bool) (s:Bs):(a7 c s).length≤s.length:=by
 unfold a7;split
 ·exact cA s
 ·exact gA4 _
theorem vQ (l:List Tok) (t:Tok):l.length≤(bw l t).length∧(bw l t).length≤l.length+1:=by
 unfold bw;split<;>simp
inductive EX where
 |mk (kind:Nat) (v:V) (name:ByteArray) (steps:List ByteArray) (args:List EX)
def EX.kind:EX→Nat
 | .mk k _ _ _ _=>k
def EX.v:EX→V
 | .mk _ v _ _ _=>v
def EX.name:EX→ByteArray
 | .mk _ _ n _ _=>n
def EX.steps:EX→List ByteArray
 | .mk _ _ _ s _=>s
def EX.args:EX→List EX
 | .mk _ _ _ _ a=>a
def EX.null:EX:= .mk 0 V.null ⟨#[]⟩ [] []
def exH (k:Nat) (v:V) (n:ByteArray) (s:List ByteArray):List AV:= [.int .i64 (k:Int),.int .i64 v.kind,.bool v.b,.int .i64 v.n,.str v.s,.lst .any 6 (aF v.l),.lst .any 7 (ak v.m),.str n,.lst .any 1 (b0 s)]
mutual
def EX.row:EX→List AV
 | .mk k v n s a=>exH k v n s++ [.lst .any 10 (aO a)]
def aO:List EX→List (List AV)
 | []=> []
 |x::l=>x.row::aO l
end
theorem fV: ∀l:List EX,aO l=l.map EX.row
 | []=>rfl
 |x::l=>by rw [aO,fV l];rfl
theorem bp (l:List EX):(aO l).length=l.length:=by rw [fV,List.length_map]
theorem eR (l:List EX) (x:EX):aO (l++ [x])=aO l++ [x.row]:=by rw [fV,fV,List.map_append];rfl
inductive ND where
 |mk (kind:Nat) (text:ByteArray) (e:EX) (key name:ByteArray) (body els:List ND)
def ND.kind:ND→Nat
 | .mk k _ _ _ _ _ _=>k
def ND.text:ND→ByteArray
 | .mk _ t _ _ _ _ _=>t
def ND.e:ND→EX
 | .mk _ _ e _ _ _ _=>e
def ND.key:ND→ByteArray
 | .mk _ _ _ k _ _ _=>k
def ND.name:ND→ByteArray
 | .mk _ _ _ _ n _ _=>n
def ND.body:ND→List ND
 | .mk _ _ _ _ _ b _=>b
def ND.els:ND→List ND
 | .mk _ _ _ _ _ _ e=>e
def ND.null:ND:= .mk 0 ⟨#[]⟩ EX.null ⟨#[]⟩ ⟨#[]⟩ [] []
def ndH (k:Nat) (t:ByteArray) (e:EX) (key name:ByteArray):List AV:= .int .i64 (k:Int):: .str t::(e.row++ [.str key,.str name])
mutual
def ND.row:ND→List AV
 | .mk k t e key n b l=>ndH k t e key n++ [.lst .any 16 (aM b),.lst .any 16 (aM l)]
def aM:List ND→List (List AV)
 | []=> []
 |x::l=>x.row::aM l
end
theorem jq: ∀l:List ND,aM l=l.map ND.row
 | []=>rfl
 |x::l=>by rw [aM,jq l];rfl
theorem fW (l:List ND):(aM l).length=l.length:=by rw [jq,List.length_map]
theorem H1 {l:List ND} {k:Nat} {x:ND} (h:l[k]? =some x):(aM l)[k]? =some x.row:=by rw [jq,gA8,h];rfl
theorem DO (l:List ND) (x:ND):aM (l++ [x])=aM l++ [x.row]:=by rw [jq,jq,List.map_append];rfl
def il (c:UInt8):Bool:=(decide (97≤c)&&decide (c≤122))||(decide (65≤c)&&decide (c≤90))||c==95
def mR (c:UInt8):Bool:=il c||(decide (48≤c)&&decide (c≤57))
def xd (c:UInt8):Bool:=decide (48≤c)&&decide (c≤57)
def nmL:Bs→Bs
 | []=> []
 |c::t=>if il c=true then c::t.takeWhile mR else []
def H2 (s:Bs):Bool:=decide (nmL s=s)&& !s.isEmpty&&decide (s.length≤256)
def bg:Nat→Bs→List ByteArray×Bs
 |0,s=>([],s)
 |n+1,s=>match s with
  |d::c::t=>if d=46∧il c=true then (toB (nmL (c::t))::(bg n ((c::t).drop (nmL (c::t)).length)).1,(bg n ((c::t).drop (nmL (c::t)).length)).2) else ([],s)
  |_=>([],s)
structure RD where
 s:Bs
 deep:Int
 bad:Int
def RD.fail (r:RD) (e:Int):RD:=⟨[],r.deep,if r.bad=0 then e else r.bad⟩
def RD.skip (r:RD):RD:=⟨tlw r.s,r.deep,r.bad⟩
def RD.to (r:RD) (s:Bs):RD:=⟨s,r.deep,r.bad⟩
def im:Bs→Nat
 | []=>1
 |_::t=>1+(t.takeWhile xd).length
def qR (r:RD):EX×RD:=match bi (toB (r.s.take (im r.s))) with
 |(v,e)=>if e≠0∨v.kind≠2 then (EX.null,r.fail (if e=0 then 20 else e)) else (.mk 0 v ⟨#[]⟩ [] [],r.to (r.s.drop (im r.s)))
inductive PM where
 |operand
 |command
 |args (name:ByteArray) (out:List EX)
 |pipe
 |bars (x:EX)
def wTr:Bs:= [116,114,117,101]
def wFa:Bs:= [102,97,108,115,101]
def wNi:Bs:= [110,105,108]
def exF:Nat→PM→RD→EX×Bool×RD
 |0,_,r=>(EX.null,false,r)
 |n+1,.operand,r=>match tlw r.s with
  | []=>(EX.null,false,r.skip)
  |c::t=>
   if c=34 then (match lP (c::t) with
    |none=>(EX.null,true,r.fail 11)
    |some (x,rest)=>(.mk 0 (V.str (toB x)) ⟨#[]⟩ [] [],true,r.to rest))
   else if c=45∨xd c=true then (((qR r.skip).1,true,(qR r.skip).2))
   else if c=46 then (.mk 1 V.null ⟨#[]⟩ (bg (c::t).length (c::t)).1 [],true,r.to (if (bg (c::t).length (c::t)).1= [] then t else (bg (c::t).length (c::t)).2))
   else if c=36 then (if nmL t= [] then (EX.null,true,r.fail 20)
    else (.mk 2 V.null (toB (nmL t)) (bg t.length (t.drop (nmL t).length)).1 [],true,r.to (bg t.length (t.drop (nmL t).length)).2))
   else if c=40 then (if 16<IntKind.i64.wrap (r.deep+1) then (EX.null,true,(⟨c::t,IntKind.i64.wrap (r.deep+1),r.bad⟩:RD).fail 5)
    else match exF n .pipe ⟨t,IntKind.i64.wrap (r.deep+1),r.bad⟩ with
     |(x,_,g)=>match tlw g.s with
      | []=>(EX.null,true,g.fail 20)
      |d::u=>if d=41 then (x,true,⟨u,IntKind.i64.wrap (g.deep-1),g.bad⟩) else (EX.null,true,g.fail 20))
   else if il c=true then
    (if nmL (c::t)=wTr∨nmL (c::t)=wFa then (.mk 0 (V.bool (c==116)) ⟨#[]⟩ [] [],true,r.to ((c::t).drop (nmL (c::t)).length))
    else if nmL (c::t)=wNi then (EX.null,true,r.to ((c::t).drop (nmL (c::t)).length))
    else (EX.null,false,r.skip))
   else (EX.null,false,r.skip)
 |n+1,.command,r=>match exF n .operand r with
  |(x,true,g)=>(x,true,g)
  |(_,false,g)=>if nmL g.s= [] then (EX.null,true,g.fail 20) else exF n (.args (toB (nmL g.s)) []) (g.to (g.s.drop (nmL g.s).length))
 |n+1,.args name out,r=>match exF n .operand r with
  |(x,true,g)=>exF n (.args name (out++ [x])) g
  |(_,false,g)=>if nmL g.s= [] then (.mk 3 V.null name [] out,true,g) else exF n (.args name (out++ [.mk 3 V.null (toB (nmL g.s)) [] []])) (g.to (g.s.drop (nmL g.s).length))
 |n+1,.pipe,r=>match exF n .command r with
  |(x,_,g)=>exF n (.bars x) g
 |n+1,.bars x,r=>match tlw r.s with
  | []=>(x,true,r.skip)
  |c::t=>if c=124 then (match exF n .command (r.to t) with
   |(y,_,g)=>if y.kind≠3∧g.bad=0 then (EX.null,true,g.fail 20) else exF n (.bars (.mk y.kind y.v y.name y.steps (y.args++ [x]))) g)
   else (x,true,r.skip)
def s7 (s:Bs):EX×Int:=match exF (4*s.length+4) .pipe ⟨s,0,0⟩ with
 |(x,_,r)=>if r.bad≠0 then (EX.null,r.bad) else if tlw r.s≠ [] then (EX.null,20) else (x,0)
def JI (s:Bs):Option (Bs×Bs):=match tlw s with
 | []=>none
 |c::t=>if c=36 then some (nmL t,tlw (t.drop (nmL t).length)) else none
def mS (s:Bs):Bs×Bs×Bool:=match JI s with
 |none=>([],[],false)
 |some (n,r)=>(n,r, !n.isEmpty)
def iO (s:Bs):Bs×Bs×Bool:=match mS s with
 |(n,r,false)=>(n,r,false)
 |(n,r,true)=>if ([58,61]:Bs).isPrefixOf r=true then (n,r.drop 2,true) else (n,r,false)
structure MK where
 l:List Tok
 at_:Nat
 deep:Int
 bad:Int
def MK.fail (m:MK) (e:Int):MK:=⟨m.l,m.l.length,m.deep,if m.bad=0 then e else m.bad⟩
def MK.pipe (m:MK) (s:Bs):EX×MK:=match s7 s with
 |(x,e)=>(x,if e≠0 then m.fail e else m)
def wIf:Bs:= [105,102]
def rS:Bs:= [119,105,116,104]
def zT:Bs:= [114,97,110,103,101]
def s8:Bs:= [100,101,102,105,110,101]
def jr:Bs:= [101,108,115,101]
def qS:Bs:= [101,110,100]
def b7 (s:Bs):Bs:=s.drop (nmL s).length
def fB (s:Bs):Bs×Bs×Bs:=match mS s with
 |(key,rest,b)=>if (b&&([44]:Bs).isPrefixOf rest)=true then (match iO (rest.drop 1) with
  |(name,more,g)=>if g=true then (key,name,more) else ([],[],s))
  else (match iO s with
   |(name,more,g)=>if g=true then ([],name,more) else ([],[],s))
def eK (m:MK) (w s:Bs):ND×MK:=
 if w=wIf then (.mk 2 ⟨#[]⟩ (m.pipe s).1 ⟨#[]⟩ ⟨#[]⟩ [] [],(m.pipe s).2)
 else if w=rS then (.mk 3 ⟨#[]⟩ (m.pipe s).1 ⟨#[]⟩ ⟨#[]⟩ [] [],(m.pipe s).2)
 else if w=s8 then (match s7 s with
  |(x,e)=>(.mk 6 ⟨#[]⟩ EX.null ⟨#[]⟩ x.v.s [] [],if e≠0∨x.kind≠0∨x.v.kind≠3∨H2 x.v.s.data.toList=false∨1<m.deep then m.fail (if e=0 then 22 else e) else m))
 else (.mk 4 ⟨#[]⟩ (m.pipe (fB s).2.2).1 (toB (fB s).1) (toB (fB s).2.1) [] [],(m.pipe (fB s).2.2).2)
inductive NM where
 |nodes (out:List ND)
 |block (w s:Bs)
def ndF:Nat→NM→MK→List ND×Bs×Bs×MK
 |0,_,m=>([],[],[],m)
 |n+1,.nodes out,m=>match m.l[m.at_]? with
  |none=>(out,[],[],m)
  |some t=>
   let g:MK:=⟨m.l,m.at_+1,m.deep,m.bad⟩
   if t.act=false then ndF n (.nodes (out++ [.mk 0 (toB t.s) EX.null ⟨#[]⟩ ⟨#[]⟩ [] []])) g
   else if nmL t.s=qS∨nmL t.s=jr then (out,nmL t.s,b7 t.s,g)
   else if nmL t.s=wIf∨nmL t.s=rS∨nmL t.s=zT∨nmL t.s=s8 then (match ndF n (.block (nmL t.s) (b7 t.s)) g with
    |(b,_,_,C)=>ndF n (.nodes (out++b)) C)
   else match iO t.s with
    |(name,rest,true)=>ndF n (.nodes (out++ [.mk 5 ⟨#[]⟩ (g.pipe rest).1 ⟨#[]⟩ (toB name) [] []])) (g.pipe rest).2
    |(_,_,false)=>ndF n (.nodes (out++ [.mk 1 ⟨#[]⟩ (g.pipe t.s).1 ⟨#[]⟩ ⟨#[]⟩ [] []])) (g.pipe t.s).2
 |n+1,.block w s,m=>
  let g:MK:=⟨m.l,m.at_,IntKind.i64.wrap (m.deep+1),m.bad⟩
  if 16<g.deep then ([ND.null],[],[],g.fail 5)
  else
   let h:=eK g w s
   match ndF n (.nodes []) h.2 with
   |(body,stop,rest,C)=>
    if stop=jr∧w=wIf∧nmL (tlw rest)=wIf then (match ndF n (.block wIf (b7 (tlw rest))) C with
     |(b,_,_,j)=>([.mk h.1.kind h.1.text h.1.e h.1.key h.1.name body b],[],[],⟨j.l,j.at_,IntKind.i64.wrap (j.deep-1),j.bad⟩))
    else if stop=jr∧w≠s8∧tlw rest= [] then (match ndF n (.nodes []) C with
     |(els,p,r,j)=>
      let i:=if p≠qS∨tlw r≠ [] then j.fail 21 else j
      ([.mk h.1.kind h.1.text h.1.e h.1.key h.1.name body els],[],[],⟨i.l,i.at_,IntKind.i64.wrap (i.deep-1),i.bad⟩))
    else
     let i:=if stop≠qS∨tlw rest≠ [] then C.fail 21 else C
     ([.mk h.1.kind h.1.text h.1.e h.1.key h.1.name body []],[],[],⟨i.l,i.at_,IntKind.i64.wrap (i.deep-1),i.bad⟩)
def bU (s:Bs):List ND×Int:=match cN s with
 |(l,e)=>if e≠0 then ([],e) else match ndF (3*l.length+3) (.nodes []) ⟨l,0,0,0⟩ with
  |(out,stop,_,m)=>if stop≠ []∧m.bad=0 then ([],21) else if m.bad≠0 then ([],m.bad) else (out,0)
theorem fO (s:Bs):(nmL s).length≤s.length:=by
 unfold nmL;split
 ·exact gA4 _
 ·split
  ·have:=(List.takeWhile_sublist (p:=mR) (l:= ‹Bs›)).length_le
   simp only [gA3];omega
  ·exact gB8 _
theorem iB {s:Bs} (h:nmL s≠ []):0<(nmL s).length:=by
 cases g:nmL s with
 |nil=>exact absurd g h
 |cons c t=>simp
theorem zU {c:UInt8} {t:Bs} (h:il c=true):nmL (c::t)≠ []:=by
 unfold nmL;dsimp only;rw [if_pos h];simp
theorem n9: ∀(n:Nat) (s:Bs),(bg n s).2.length≤s.length∧((bg n s).1≠ []→(bg n s).2.length+2≤s.length)
 |0,s=>⟨gA4 _,fun h=>absurd rfl h⟩
 |n+1,[]=>⟨gA4 _,fun h=>absurd rfl h⟩
 |n+1,[d]=>⟨gA4 _,fun h=>absurd rfl h⟩
 |n+1,d::c::t=>by
  unfold bg;dsimp only;split
  ·rename_i h
   have g:=(n9 n ((c::t).drop (nmL (c::t)).length)).1;have i:=iB (zU (t:=t) h.2);rw [gA6] at g;simp only [gA3] at g⊢;exact ⟨by omega,fun _=>by omega⟩
  ·exact ⟨gA4 _,fun h=>absurd rfl h⟩
theorem BM (s:Bs):1≤im s:=by
 unfold im;split<;>omega
theorem JJ {c:UInt8} {t:Bs}:im (c::t)≤(c::t).length:=by
 have:=(List.takeWhile_sublist (p:=xd) (l:=t)).length_le;simp only [im,gA3];omega
def PM.base:PM→Nat
 | .args _ out=>out.length
 | .bars x=>x.args.length
 |_=>0
theorem BN (r:RD) {c:UInt8} {t:Bs} (h:r.s=c::t):(qR r).1.args.length=0∧(qR r).2.s.length<r.s.length:=by
 have i:=BM r.s;have g:0<r.s.length:=by rw [h];simp
 unfold qR;generalize bi (toB (r.s.take (im r.s)))=q;obtain ⟨v,e⟩:=q;dsimp only;split
 ·exact ⟨rfl,g⟩
 ·refine ⟨rfl,?_⟩
  show (r.s.drop (im r.s)).length<_;rw [gA6];omega
theorem bN: ∀(n:Nat) (m:PM) (r:RD),(exF n m r).1.args.length+(exF n m r).2.2.s.length≤m.base+r.s.length∧(m= .operand→(exF n m r).2.1=true→(exF n m r).2.2.s.length<r.s.length)
 |0,m,r=>⟨by show 0+r.s.length≤_;omega,fun _ h=>by cases h⟩
 |n+1,.operand,r=>by
  have hl:=cA r.s;unfold exF;cases T:tlw r.s with
  |nil=>exact ⟨by show 0+(tlw r.s).length≤0+_;omega,fun _ h=>by cases h⟩
  |cons c t=>
   have J:=hl;rw [T,gA3] at J;have i: ∀(x:EX) (g:RD) (b:Bool),x.args.length=0→g.s.length<r.s.length→x.args.length+g.s.length≤PM.base .operand+r.s.length∧(PM.operand= .operand→b=true→g.s.length<r.s.length):=fun x g b C j=>⟨by show _≤0+_;omega,fun _ _=>j⟩
   have I: ∀g:RD,g.s.length≤r.s.length→EX.null.args.length+g.s.length≤PM.base .operand+r.s.length∧(PM.operand= .operand→false=true→g.s.length<r.s.length):=fun g h=>⟨by show 0+_≤0+_;omega,fun _ h=>by cases h⟩
   dsimp only;split
   ·cases hu:lP (c::t) with
    |none=>exact i EX.null (r.fail 11) true rfl (by show 0<_;omega)
    |some p=>
     obtain ⟨x,rest⟩:=p;have C:=iw hu;rw [gA3] at C;exact i (.mk 0 (V.str (toB x)) ⟨#[]⟩ [] []) (r.to rest) true rfl (by show rest.length<_;omega)
   ·split
    ·have C:=BN r.skip (c:=c) (t:=t) T
     have j:r.skip.s.length≤r.s.length:=hl;exact i (qR r.skip).1 (qR r.skip).2 true C.1 (by omega)
    ·split
     ·have C:=n9 (c::t).length (c::t)
      simp only [gA3] at C;refine i _ (r.to _) true rfl ?_;show (if _ then t else _).length<_;split
      ·omega
      ·rename_i U
       have:=C.2 U;show (bg (t.length+1) (c::t)).2.length<_;omega
     ·split
      ·split
       ·exact i _ (r.fail 20) true rfl (by show 0<_;omega)
       ·have C:=(n9 t.length (t.drop (nmL t).length)).1
        rw [gA6] at C;exact i _ (r.to _) true rfl (by show (bg t.length (t.drop (nmL t).length)).2.length<_;omega)
      ·split
       ·split
        ·exact i _ ((⟨c::t,IntKind.i64.wrap (r.deep+1),r.bad⟩:RD).fail 5) true rfl (by show 0<_;omega)
        ·have ih:=(bN n .pipe ⟨t,IntKind.i64.wrap (r.deep+1),r.bad⟩).1
         generalize exF n .pipe ⟨t,IntKind.i64.wrap (r.deep+1),r.bad⟩=q at ih;obtain ⟨x,b,g⟩:=q;have ih:x.args.length+g.s.length≤0+t.length:=ih;have hl1:=cA g.s;dsimp only;cases hs1:tlw g.s with
         |nil=>exact i EX.null (g.fail 20) true rfl (by show 0<_;omega)
         |cons d u=>
          rw [hs1,gA3] at hl1;dsimp only;split
          ·exact ⟨by show x.args.length+u.length≤0+_;omega,fun _ _=>by show u.length<_;omega⟩
          ·exact i EX.null (g.fail 20) true rfl (by show 0<_;omega)
       ·split
        ·rename_i R
         have C:=iB (zU (t:=t) R);have j:((c::t).drop (nmL (c::t)).length).length<r.s.length:=by rw [gA6,gA3];omega
         split
         ·exact i _ (r.to _) true rfl j
         ·split
          ·exact i EX.null (r.to _) true rfl j
          ·exact I r.skip hl
        ·exact I r.skip hl
 |n+1,.command,r=>by
  unfold exF;have ih:=bN n .operand r;generalize exF n .operand r=q at ih;obtain ⟨x,b,g⟩:=q;obtain ⟨P,i2⟩:=ih;have P:x.args.length+g.s.length≤0+r.s.length:=P;cases b with
  |true=>exact ⟨P,fun h=>by cases h⟩
  |false=>
   dsimp only;split
   ·exact ⟨by show 0+0≤_;omega,fun h=>by cases h⟩
   ·have j:=(bN n (.args (toB (nmL g.s)) []) (g.to (g.s.drop (nmL g.s).length))).1
    have h3:(g.to (g.s.drop (nmL g.s).length)).s.length≤g.s.length:=by show (g.s.drop _).length≤_;rw [gA6];omega
    have h4:PM.base (.args (toB (nmL g.s)) [])=0:=rfl;exact ⟨by show _≤0+_;omega,fun h=>by cases h⟩
 |n+1,.args name out,r=>by
  unfold exF;have ih:=bN n .operand r;generalize exF n .operand r=q at ih;obtain ⟨x,b,g⟩:=q;obtain ⟨P,i2⟩:=ih;have P:x.args.length+g.s.length≤0+r.s.length:=P;have e1: ∀y:EX,PM.base (.args name (out++ [y]))=out.length+1:=fun y=>by show (out++ [y]).length=_;simp
  cases b with
  |true=>
   have i2:g.s.length<r.s.length:=i2 rfl rfl;have j:=(bN n (.args name (out++ [x])) g).1;rw [e1] at j;dsimp only;exact ⟨by show _≤out.length+_;omega,fun h=>by cases h⟩
  |false=>
   dsimp only;split
   ·exact ⟨by show out.length+g.s.length≤out.length+_;omega,fun h=>by cases h⟩
   ·rename_i hn
    have C:=iB hn;have h0:=fO g.s;have j:=(bN n (.args name (out++ [.mk 3 V.null (toB (nmL g.s)) [] []])) (g.to (g.s.drop (nmL g.s).length))).1;rw [e1] at j;have h3:(g.to (g.s.drop (nmL g.s).length)).s.length+1≤g.s.length:=by show (g.s.drop _).length+1≤_;rw [gA6];omega
    exact ⟨by show _≤out.length+_;omega,fun h=>by cases h⟩
 |n+1,.pipe,r=>by
  unfold exF;have ih:=(bN n .command r).1;generalize exF n .command r=q at ih;obtain ⟨x,b,g⟩:=q;have ih:x.args.length+g.s.length≤0+r.s.length:=ih;have j:=(bN n (.bars x) g).1;have h3:PM.base (.bars x)=x.args.length:=rfl;exact ⟨by show _≤0+_;dsimp only;omega,fun h=>by cases h⟩
 |n+1,.bars x,r=>by
  have hl:=cA r.s;unfold exF;cases T:tlw r.s with
  |nil=>exact ⟨by show x.args.length+(tlw r.s).length≤x.args.length+_;omega,fun h=>by cases h⟩
  |cons c t=>
   have J:=hl;rw [T,gA3] at J;dsimp only;split
   ·have ih:=(bN n .command (r.to t)).1
    generalize exF n .command (r.to t)=q at ih;obtain ⟨y,b,g⟩:=q;have ih:y.args.length+g.s.length≤0+t.length:=ih;dsimp only;split
    ·exact ⟨by show 0+0≤_;omega,fun h=>by cases h⟩
    ·have j:=(bN n (.bars (.mk y.kind y.v y.name y.steps (y.args++ [x]))) g).1
     have h3:PM.base (.bars (.mk y.kind y.v y.name y.steps (y.args++ [x])))=y.args.length+1:=by show (y.args++ [x]).length=_;simp
     exact ⟨by show _≤x.args.length+_;omega,fun h=>by cases h⟩
   ·exact ⟨by show x.args.length+(tlw r.s).length≤x.args.length+_;omega,fun h=>by cases h⟩
theorem MK.pipe_at (m:MK) (s:Bs):(m.pipe s).2.l=m.l∧m.at_≤m.l.length→(m.pipe s).2.l=m.l∧m.at_≤(m.pipe s).2.at_∧(m.pipe s).2.at_≤m.l.length:=by
 intro ⟨i,g⟩;refine ⟨i,?_⟩;unfold MK.pipe;generalize s7 s=q;obtain ⟨x,e⟩:=q;dsimp only;split
 ·exact ⟨g,gA4 _⟩
 ·exact ⟨gA4 _,g⟩
theorem MK.pipe_l (m:MK) (s:Bs):(m.pipe s).2.l=m.l:=by
 unfold MK.pipe;generalize s7 s=q;obtain ⟨x,e⟩:=q;dsimp only;split<;>rfl
theorem BO (m:MK) (w s:Bs) (g:m.at_≤m.l.length):(eK m w s).2.l=m.l∧m.at_≤(eK m w s).2.at_∧(eK m w s).2.at_≤m.l.length:=by
 have i:=fun s=>m.pipe_at s ⟨m.pipe_l s,g⟩
 unfold eK;split
 ·exact i s
 ·split
  ·exact i s
  ·split
   ·generalize s7 s=q
    obtain ⟨x,e⟩:=q;dsimp only;split
    ·exact ⟨rfl,g,gA4 _⟩
    ·exact ⟨rfl,gA4 _,g⟩
   ·exact i _
theorem eu: ∀(n:Nat) (k:NM) (m:MK),m.at_≤m.l.length→(ndF n k m).2.2.2.l=m.l∧m.at_≤(ndF n k m).2.2.2.at_∧(ndF n k m).2.2.2.at_≤m.l.length∧(∀out,k= .nodes out→(ndF n k m).1.length+m.at_≤out.length+(ndF n k m).2.2.2.at_∧((ndF n k m).2.1≠ []→m.at_+1≤(ndF n k m).2.2.2.at_))∧(∀w s,k= .block w s→0<n→(ndF n k m).1.length=1)
 |0,k,m,h=>⟨rfl,gA4 _,h,fun out hk=>⟨by show 0+m.at_≤out.length+m.at_;omega,fun h=>absurd rfl h⟩,fun w s _ h=>by cases h⟩
 |n+1,.nodes out,m,h=>by
  unfold ndF;cases hx:m.l[m.at_]? with
  |none=>exact ⟨rfl,gA4 _,h,fun o e=>by cases e;exact ⟨gA4 _,fun h=>absurd rfl h⟩,fun w s e=>by cases e⟩
  |some t=>
   have hl:=(gA0 hx).1;dsimp only
   have on: ∀(x:ND) (g:MK),g.l=m.l→m.at_+1≤g.at_→g.at_≤m.l.length→(ndF n (.nodes (out++ [x])) g).2.2.2.l=m.l∧m.at_≤(ndF n (.nodes (out++ [x])) g).2.2.2.at_∧(ndF n (.nodes (out++ [x])) g).2.2.2.at_≤m.l.length∧(∀o,NM.nodes out= .nodes o→(ndF n (.nodes (out++ [x])) g).1.length+m.at_≤o.length+(ndF n (.nodes (out++ [x])) g).2.2.2.at_∧((ndF n (.nodes (out++ [x])) g).2.1≠ []→m.at_+1≤(ndF n (.nodes (out++ [x])) g).2.2.2.at_))∧(∀w s,NM.nodes out= .block w s→0<n+1→(ndF n (.nodes (out++ [x])) g).1.length=1):=fun x g J e2 T=>by
    obtain ⟨p,i2,i3,i4,_⟩:=eu n (.nodes (out++ [x])) g (by rw [J];exact T);have i4:=(i4 _ rfl).1;rw [J] at p i3;rw [gA5,List.length_singleton] at i4;exact ⟨p,by omega,i3,fun o e=>by cases e;exact ⟨by omega,fun _=>by omega⟩,fun w s e=>by cases e⟩
   split
   ·exact on _ ⟨m.l,m.at_+1,m.deep,m.bad⟩ rfl (gA4 _) hl
   ·split
    ·exact ⟨rfl,Nat.le_succ _,hl,fun o e=>by cases e;exact ⟨by show out.length+m.at_≤out.length+(m.at_+1);omega,fun _=>gA4 _⟩,fun w s e=>by cases e⟩
    ·split
     ·obtain ⟨i,C,j,_,U⟩:=eu n (.block (nmL t.s) (b7 t.s)) ⟨m.l,m.at_+1,m.deep,m.bad⟩ hl
      generalize ndF n (.block (nmL t.s) (b7 t.s)) ⟨m.l,m.at_+1,m.deep,m.bad⟩=q at i C j U;obtain ⟨b,st,re,g⟩:=q;dsimp only at i C j U⊢;cases n with
      |zero=>exact ⟨i,by show m.at_≤g.at_;omega,j,fun o e=>by cases e;exact ⟨by show 0+m.at_≤out.length+g.at_;omega,fun h=>absurd rfl h⟩,fun w s e=>by cases e⟩
      |succ n=>
       have hb:=U _ _ rfl (Nat.succ_pos _);obtain ⟨x,rfl⟩:=List.length_eq_one_iff.1 hb;exact on x g i C j
     ·generalize iO t.s=q
      obtain ⟨name,rest,b⟩:=q;have P:=fun s=>(⟨m.l,m.at_+1,m.deep,m.bad⟩:MK).pipe_at s ⟨MK.pipe_l _ s,hl⟩
      cases b with
      |true=>exact on _ _ (P rest).1 (P rest).2.1 (P rest).2.2
      |false=>exact on _ _ (P t.s).1 (P t.s).2.1 (P t.s).2.2
 |n+1,.block w s,m,h=>by
  unfold ndF;dsimp only;split
  ·exact ⟨rfl,h,gA4 _,fun o e=>(by cases e),fun _ _ _ _=>rfl⟩
  ·obtain ⟨R,h2,h3⟩:=BO ⟨m.l,m.at_,IntKind.i64.wrap (m.deep+1),m.bad⟩ w s h
   generalize eK ⟨m.l,m.at_,IntKind.i64.wrap (m.deep+1),m.bad⟩ w s=hd at R h2 h3;obtain ⟨hn,hm⟩:=hd;dsimp only at R h2 h3⊢;obtain ⟨p,i2,i3,i4,_⟩:=eu n (.nodes []) hm (by rw [R];exact h3);rw [R] at p i3;generalize ndF n (.nodes []) hm=q at p i2 i3 i4;obtain ⟨body,stop,rest,g⟩:=q;dsimp only at p i2 i3⊢
   have close: ∀(r:MK) (c:Prop) [Decidable c] (x:ND),r.l=m.l→m.at_≤r.at_→r.at_≤m.l.length→ ∀I:MK,I=(if c then r.fail 21 else r)→((⟨I.l,I.at_,IntKind.i64.wrap (I.deep-1),I.bad⟩:MK).l=m.l∧m.at_≤I.at_∧I.at_≤m.l.length):=fun r c _ x J e2 T I e=>by
    subst e;split
    ·exact ⟨J,by show m.at_≤r.l.length;rw [J];exact h,by show r.l.length≤_;rw [J];exact gA4 _⟩
    ·exact ⟨J,e2,T⟩
   split
   ·obtain ⟨i,C,j,_,_⟩:=eu n (.block wIf (b7 (tlw rest))) g (by rw [p];exact i3)
    rw [p] at i j;generalize ndF n (.block wIf (b7 (tlw rest))) g=q at i C j;obtain ⟨b,st,re,r⟩:=q;dsimp only at i C j⊢;exact ⟨i,by omega,j,fun o e=>(by cases e),fun _ _ _ _=>rfl⟩
   ·split
    ·obtain ⟨i,C,j,_,_⟩:=eu n (.nodes []) g (by rw [p];exact i3)
     rw [p] at i j;generalize ndF n (.nodes []) g=q at i C j;obtain ⟨els,st,re,r⟩:=q;dsimp only at i C j⊢;obtain ⟨k1,k2,k3⟩:=close r (st≠qS∨tlw re≠ []) ND.null i (by omega) j _ rfl;exact ⟨k1,k2,k3,fun o e=>(by cases e),fun _ _ _ _=>rfl⟩
    ·obtain ⟨k1,k2,k3⟩:=close g (stop≠qS∨tlw rest≠ []) ND.null p (by omega) i3 _ rfl
     exact ⟨k1,k2,k3,fun o e=>(by cases e),fun _ _ _ _=>rfl⟩
end
section
set_option maxRecDepth 100000
def xe:ACode:=
 .seq (gQ [gJ 4 0]) (.seq (.seq (gQ [gM 6 1,gM 5 6]) (.block 0 (.loop (.seq (.seq (gQ [gM 7 5,gM 8 0,gH 9 true 8,gV 10 .lss 7 9]) (.cond (.s 10) .skip (.exit 0))) (.seq (.block 1 (.block 2 (.seq (gQ [gM 14 0,gM 15 5,⟨gO,.sub 16 true 0 (.s 14) (some (.s 15)) none⟩,⟨gO,.call (some 17) (.k (.fn 42 [])) [.s 16,gS ⟨#[125,125]⟩]⟩,gM 13 17]) (.cond (.s 13) (.seq (gQ [gM 18 5,gM 4 18]) .ret) (.seq (gQ [gM 20 0,gM 21 5,⟨gO,.bidx 22 (.s 20) (.s 21)⟩,⟨gO,gB 23 .eql (.s 22) (.k (.int .u8 34))⟩,gM 19 23]) (.cond (.s 19) (.seq (gQ [gM 24 5,gU 25 .add 24 1,gM 5 25]) (.block 3 (.loop (.seq (.seq (gQ [gM 26 5,gM 27 0,gH 28 true 27,gV 29 .lss 26 28,gM 30 29,gN 30 true 31 0,gN 30 true 32 5,⟨some (30,true),.bidx 33 (.s 31) (.s 32)⟩,⟨some (30,true),.bin 34 .neq false (.s 33) (.k (.int .u8 34))⟩,⟨gO,.pick 35 (.s 30) (.s 34) (.k (.bool false))⟩]) (.cond (.s 35) .skip (.exit 3))) (.seq (.block 4 (.seq (gQ [gM 38 0,gM 39 5,⟨gO,.bidx 40 (.s 38) (.s 39)⟩,⟨gO,gB 41 .eql (.s 40) (.k (.int .u8 92))⟩]) (.cond (.s 41) (.reg [gM 42 5,gU 43 .add 42 1,gM 5 43]) .skip))) (.reg [gM 36 5,gU 37 .add 36 1,gM 5 37])))))) .skip)))))) (.reg [gM 11 5,gU 12 .add 11 1,gM 5 12])))))) (.seq (gQ [⟨gO,.mov 4 (.k (.int .i64 (-1)))⟩]) .ret))
def xf:AFn:=⟨2,44,xe,[.tmp 4]⟩
theorem qU:ax Tryz.prog mU0 Tryz.f106=some xf:=kk
theorem qW:aa Tryz.prog 106=true:=kk
end
section
open Go.RowKit
theorem Holds.on {σ:Sg} {w w' :World} (g:Holds σ w) (hb:Below w.heap.size w w'):Holds σ w' :=fun b q v i=>(hb.cell (p:=⟨b,q,none⟩) (World.block_lt_of_cell? w _ (g _ _ _ i))).trans (g _ _ _ i)
end
end Go.Proofs.YtbgflifmanjpjaaGreatDoor
