/- Part 51. -/
import Derived.Test.YtbgflifmanjpjaaGreatDoorS50
set_option linter.unusedSimpArgs false
set_option linter.unusedVariables false
namespace Go.Proofs.YtbgflifmanjpjaaGreatDoor
section
open Go.RowKit
def iR (l:List Fl):Nat→Int
 |0=>0
 |k+1=>IntKind.i64.wrap (iR l k+IntKind.i64.wrap (IntKind.i64.wrap (((l.getD k (⟨#[]⟩,⟨#[]⟩)).1.size:Int)+((l.getD k (⟨#[]⟩,⟨#[]⟩)).2.size:Int))+1))
theorem Ix (l:List Fl) (hl:l.length≤4398046511104):AC Tryz.prog 7 [.lst .any 2 (aH l)] (.bool (decide (iR l l.length≤3000))):=by
 refine kE Tryz.func7 qJ qK fun E j=> ?_
 refine kW ?_;refine aJ (fun k:Nat=>(au [(3,.int .i64 (iR l k)),(6,.lst .any 2 (aH l)),(7,.int .i64 (aH l).length),(8,.int .i64 k)],⟨ag [],fun _=>0⟩)) (fun k=>k≤l.length) (fun k=>l.length-k) 0 (gB8 _) (wO ⟨kI,kI,kI,kI,trivial⟩ trivial rfl rfl) fun k r=> ?_
 refine kW ?_;refine kC (fun hb=> ?_) fun hb=> ?_
 ·have g:k<l.length:=by simpa [aP] using hb
  obtain ⟨p,hg⟩: ∃x,l[k]? =some x:=⟨_,gA1 g⟩
  have hd:l.getD k (⟨#[]⟩,⟨#[]⟩)=p:=by rw [List.getD_eq_getElem?_getD,hg];rfl
  refine kW ?_;refine kP [.c [.str p.1,.str p.2]] ?_ ?_
  ·((repeat' apply aI)<;>first|exact kD|(intro i;refine ⟨?_,kG⟩;(repeat' apply aI)<;>first|exact kD|skip)|skip)
   ·exact jk hg
  refine kW ?_;exact AK.lp ⟨k+1,by omega,wO ⟨⟨_,rfl,.of_eq (congrArg (AV.int .i64) (by rw [iR,hd]))⟩,kI,kI,kU,trivial⟩ trivial rfl rfl,by omega⟩
 ·have g:k=l.length:=by have:l.length≤k:=by simpa [aP] using hb
                        omega
  subst g;refine AK.exit rfl ?_;refine kW ?_;refine aR ⟨_,rfl,?_⟩;rfl
def ol:List Fl→Nat
 | []=>0
 |p::l=>p.1.size+p.2.size+1+ol l
theorem Cp: ∀a b:List Fl,ol (a++b)=ol a+ol b
 | [],b=>by simp [ol]
 |p::a,b=>by rw [List.cons_append,ol,ol,Cp a b];omega
theorem Cq {p:Fl}: ∀{l:List Fl},p∈l→p.1.size+p.2.size≤ol l
 |q::l,h=>by
  rw [ol];rcases gB2 h with rfl|h
  ·omega
  ·have:=Cq h;omega
theorem J3 {l:List Fl} (h: ∀p∈l,p.1.size≤140737488355328∧p.2.size≤140737488355328):ol l≤l.length*281474976710657:=by
 induction l with
 |nil=>exact gB8 _
 |cons p l ih=>
  have i:=ih fun q g=>h q (by simp [g])
  have j:=h p (by simp);rw [ol,gA3];omega
theorem yy {l:List Fl} (g:l.length≤32) (h: ∀p∈l,p.1.size≤140737488355328∧p.2.size≤140737488355328): ∀k,k≤l.length→iR l k=(ol (l.take k):Nat)
 |0,_=>rfl
 |k+1,r=>by
  obtain ⟨p,hg⟩: ∃x,l[k]? =some x:=⟨_,gA1 (by omega)⟩
  have hd:l.getD k (⟨#[]⟩,⟨#[]⟩)=p:=by rw [List.getD_eq_getElem?_getD,hg];rfl
  have C:=h p (gA2 hg);have e:l.take (k+1)=l.take k++ [p]:=by rw [List.take_add_one,hg];rfl
  have I:ol (l.take k)≤32*281474976710657:=by
   have:=J3 (l:=l.take k) fun q i=>h q (List.mem_of_mem_take i)
   have j:(l.take k).length≤32:=by rw [gA7];omega
   exact gB7 this (Nat.mul_le_mul_right _ j)
  rw [iR,yy g h k (by omega),hd,e,Cp,ol,ol,aG (n:=(p.1.size:Int)+(p.2.size:Int)) (by omega) (by omega),aG (n:=(p.1.size:Int)+(p.2.size:Int)+1) (by omega) (by omega),aG (by omega) (by omega)];omega
theorem Cr {l:List Fl} (g:l.length≤32) (h: ∀p∈l,p.1.size≤140737488355328∧p.2.size≤140737488355328) (hl:iR l l.length≤3000): ∀p∈l,p.1.size≤1000000∧p.2.size≤1000000:=fun p i=>by
 rw [yy g h _ (gA4 _),List.take_length] at hl;have:=Cq i;omega
def awS:ByteArray:=⟨#[98,46,99,61,120]⟩
def kO:V:=br [(⟨#[97]⟩,V.int 1)]
def awR:V:=br [(⟨#[97]⟩,V.int 1),(⟨#[98]⟩,br [(⟨#[99]⟩,V.str ⟨#[120]⟩)])]
def cX:V:=V.str ⟨#[120]⟩
def cC:V:=br [(⟨#[99]⟩,cX)]
def cB:V:=br [(⟨#[98]⟩,cC)]
theorem Li {k:Int} {b:Bool} {n:Int} {s:ByteArray} (g:k≠5):(V.mk k b n s [] []).ord:=(V.ord_eq _).2 ⟨fun h=>absurd h g,fun _=>rfl,.nil,fun p i=>by cases i⟩
theorem Iy:cX.ord:=Li (by decide)
theorem Iz:cC.ord:=bZ (List.pairwise_singleton _ _) fun p g=>by rw [gB1 g];exact Iy
theorem EN:kO.ord:=bZ (List.pairwise_singleton _ _) fun p g=>by rw [gB1 g];exact Li (by decide)
theorem J4:awR.ord:=bZ (List.pairwise_cons.2 ⟨fun p g=>by rw [gB1 g];show Op.bytesLess _ _=true;decide+kernel,List.pairwise_singleton _ _⟩) fun p g=>by
 rcases gB2 g with rfl|g
 ·exact Li (by decide)
 ·rw [gB1 g]
  exact Iz
theorem sbC {k:Int} {b:Bool} {n:Int} {s:ByteArray} (g:s.size≤140737488355328):(V.mk k b n s [] []).sb:=(V.sb_eq _).2 ⟨g,⟨gB8 _,gB8 _⟩,trivial,trivial⟩
theorem Lj:awR.sb:=by
 have g:cC.sb:=(V.sb_eq _).2 ⟨by decide,⟨gB8 _,by decide⟩,trivial,by decide,sbC (by decide),trivial⟩;exact (V.sb_eq _).2 ⟨by decide,⟨gB8 _,by decide⟩,trivial,by decide,sbC (by decide),by decide,g,trivial⟩
theorem J5:AC Tryz.prog 74 [(vA (V.null)),(vA (cC))] ((vA (cC))):=by
 have g:AC Tryz.prog 126 [(vA (cC))] ((vA (cC))):=JG 2 cC (by decide+kernel) Iz (by decide+kernel);refine kE Tryz.func74 kx ky fun E i=> ?_
 refine kW ?_;refine kQ [] ?_;refine kCt ?_;refine kW ?_;refine kQ [.v ((vA (cC)))] ?_;refine kW ?_;refine aR ⟨_,rfl,?_⟩;rfl
def oJ:Nat→V
 |0=>kO
 |_=>awR
theorem J6:AC Tryz.prog 74 [(vA (kO)),(vA (cB))] ((vA (awR))):=by
 have g:=J5;have i:=gD kO (by decide+kernel);have j:AC Tryz.prog 38 [(vA (kO)),.str ⟨#[98]⟩] (.tup [(vA (V.null)),.bool false]):=cK kO ⟨#[98]⟩ EN (by decide+kernel);have p:AC Tryz.prog 128 [(vA (kO)),.str ⟨#[98]⟩,(vA (cC))] ((vA (awR))):=eP kO ⟨#[98]⟩ cC EN (by decide+kernel);refine kE Tryz.func74 kx ky fun E r=> ?_
 refine kW ?_;refine kQ [] ?_;refine kCf ?_;refine kW ?_;refine kQ [.v ((vA (kO)))] ?_;refine kW ?_;refine aJ (fun k:Nat=>(au [(2,.ptr 2 0),(3,.ptr 3 0),(4,.ptr 4 0),(5,.ptr 5 0),(23,.lst .any 7 (ak cB.m)),(24,.int .i64 1),(25,.int .i64 k)],⟨ag [(2,(vC (kO)),false),(3,(vC (cB)),false),(4,[.int .i64 0,.bool false,.int .i64 0,.str ⟨#[]⟩,.lst .nil 6 [],.lst .nil 7 []],false),(5,(vC ((oJ k))),false)],fun _=>0⟩)) (fun k=>k≤1) (fun k=>1-k) 0 (by omega) (wO ⟨kI,kI,kI,kI,kI,kI,kI,trivial⟩ ⟨kJ,kJ,kJ,kJ,trivial⟩ rfl rfl) fun k C=> ?_
 rcases k with _|k
 ·show AK _ _ _ _ (au _) _
  refine kW ?_;refine kCt ?_;refine kW ?_;refine kQ [.c (.str ⟨#[98]⟩::(vC (cC)))] ?_;refine kW ?_;refine kCf ?_;refine kW ?_;refine kQ [.v (.tup [(vA (V.null)),.bool false])] ?_;refine kW ?_;refine kQ [.v ((vA (cC))),.v ((vA (awR)))] ?_;refine kW ?_;exact AK.lp ⟨1,by omega,wO ⟨kI,kI,kI,kI,kI,kI,kU,trivial⟩ ⟨kJ,kJ,kJ,kJ,trivial⟩ rfl rfl,by omega⟩
 ·obtain rfl:k=0:=by omega
  show AK _ _ _ _ (au _) _;refine kW ?_;refine kCf ?_;refine AK.exit rfl ?_;refine kW ?_;refine aR ⟨_,rfl,?_⟩;rfl
theorem J7:AC Tryz.prog 35 [(vA (kO)),.str awS] (.tup [(vA (awR)),.int .i64 0]):=by
 have j:AC Tryz.prog 71 [.str awS,.str ⟨#[61]⟩] (.tup [.str ⟨#[98,46,99]⟩,.str ⟨#[120]⟩,.bool true]):=Ki awS 61 (by decide)
 have g:AC Tryz.prog 72 [.str ⟨#[98,46,99]⟩] (.tup [.lst .any 1 (bH [⟨#[98]⟩,⟨#[99]⟩]),.int .i64 0]):=by
  have h:=BI ⟨#[98,46,99]⟩ (by decide);rw [show yh ⟨#[98,46,99]⟩=([⟨#[98]⟩,⟨#[99]⟩],0) from by kernel_rfl] at h;exact h
 have p:AC Tryz.prog 73 [.str ⟨#[120]⟩] (.tup [(vA (cX)),.int .i64 0]):=by
  have h:=FN ⟨#[120]⟩ (by decide);rw [show vG ⟨#[120]⟩=(cX,0) from by kernel_rfl] at h;exact h
 have r:=cJ [] (by decide+kernel);have C:AC Tryz.prog 75 [(vA ((br []))),(vA (cX)),.lst .any 1 (bH [⟨#[98]⟩,⟨#[99]⟩])] ((vA (cB))):=FO cX (by decide+kernel) Iy [⟨#[98]⟩,⟨#[99]⟩] (br []) (by decide) (.inr rfl) (.inl (by simp));have I:=J6;have i:=rN awR Lj (by decide+kernel);rw [show awR.checkC=0 from by kernel_rfl] at i;refine kE Tryz.func35 sq sr fun E J=> ?_
 refine kW ?_;refine kQ [.v (.tup [.str ⟨#[98,46,99]⟩,.str ⟨#[120]⟩,.bool true])] ?_;refine kW ?_;refine kCf ?_;refine kW ?_;refine kQ [.v (.tup [.lst .any 1 (bH [⟨#[98]⟩,⟨#[99]⟩]),.int .i64 0])] ?_;refine kW ?_;refine kCf ?_;refine kW ?_;refine kQ [.v (.tup [(vA (cX)),.int .i64 0])] ?_;refine kW ?_;refine kCf ?_;refine kW ?_;refine kQ [.v ((vA ((br [])))),.v ((vA (cB))),.v ((vA (awR)))] ?_;refine kW ?_;refine kQ [.v (.int .i64 0)] ?_;refine kW ?_;refine kCf ?_;refine kW ?_;refine aR ⟨_,rfl,?_⟩;rfl
theorem yz:AC Tryz.prog 9 [] (.bool true):=by
 have i:=xL 1;have j:=cJ [(⟨#[97]⟩,V.int 1)] (by decide+kernel);have p:=J7;have g:awR.ord:=J4;have r:AC Tryz.prog 38 [(vA (awR)),.str ⟨#[98]⟩] (.tup [(vA ((br [(⟨#[99]⟩,V.str ⟨#[120]⟩)]))),.bool true]):=cK awR ⟨#[98]⟩ g (by decide+kernel);refine kE Tryz.func9 qL qM fun E C=> ?_
 refine kW ?_;refine kQ [.v ((vA ((V.int 1)))),.v ((vA (kO))),.v (.tup [(vA (awR)),.int .i64 0])] ?_;refine kW ?_;refine kQ [.v (.tup [(vA ((br [(⟨#[99]⟩,V.str ⟨#[120]⟩)]))),.bool true])] ?_;refine kW ?_;refine kQ [.c (.str ⟨#[99]⟩::(vC ((V.str ⟨#[120]⟩))))] ?_;refine kW ?_;refine aR ⟨_,rfl,?_⟩;rfl
end
section
set_option maxRecDepth 100000
def Cs:ACode:=
 .seq (gQ [gP 2 0,⟨gO,.alloc 4 gZ⟩,⟨gO,.mov 5 (.k (.bool false))⟩]) (.seq (.seq (gQ [gJ 6 0]) (.block 0 (.loop (.seq (.seq (gQ [gM 7 6,gF 8 5 2,gL 9 8,gH 10 false 9,gV 11 .lss 7 10]) (.cond (.s 11) .skip (.exit 0))) (.seq (.block 1 (.seq (gQ [gF 14 5 2,gL 15 14,gM 16 6,gE 17 7 15 16,gF 18 0 17,gL 19 18,gM 20 1,gV 21 .eql 19 20]) (.cond (.s 21) (.seq (gQ [gF 22 5 2,gL 23 22,gM 24 6,gE 25 7 23 24,gF 26 1 25,gA 27 6 26,gT 6 4 27,⟨gO,.mov 5 (.k (.bool true))⟩]) .ret) .skip))) (.reg [gM 12 6,gU 13 .add 12 1,gM 6 13])))))) (.seq (gQ [⟨gO,.build 28 gZ []⟩,gT 6 4 28,⟨gO,.mov 5 (.k (.bool false))⟩]) .ret))
def Ct:AFn:=⟨2,29,Cs,[.cell 4 6 true,.tmp 5]⟩
theorem wb:ax Tryz.prog [] Tryz.f22=some Ct:=kk
theorem wc:aa Tryz.prog 22=true:=kk
def Cu:ACode:=
 .seq (gQ [gP 2 0,⟨gO,.alloc 4 gZ⟩,⟨gO,.mov 5 (.k (.bool false))⟩]) (.seq (.seq (gQ [gJ 6 0]) (.block 0 (.loop (.seq (.seq (gQ [gM 9 6,gM 10 1,gH 11 false 10,gV 12 .lss 9 11]) (.cond (.s 12) .skip (.exit 0))) (.seq (.block 1 (.seq (gQ [gA 16 6 2,gM 17 1,gM 18 6,gE 19 1 17 18,gL 20 19,gC 21 22 [.s 16,.s 20],gM 15 21,gX 22 0 15,gX 23 1 15,⟨gO,.alloc 7 gZ⟩,gT 6 7 22,gM 8 23]) (.seq (.seq (gQ [gM 24 8,⟨gO,.un 25 .not (.s 24)⟩]) (.cond (.s 25) (.seq (gQ [⟨gO,.build 26 gZ []⟩,gT 6 4 26,⟨gO,.mov 5 (.k (.bool false))⟩]) .ret) .skip)) (.reg [gA 27 6 7,gT 6 2 27])))) (.reg [gM 13 6,gU 14 .add 13 1,gM 6 14])))))) (.seq (gQ [gA 28 6 2,gT 6 4 28,⟨gO,.mov 5 (.k (.bool true))⟩]) .ret))
def Cv:AFn:=⟨2,29,Cu,[.cell 4 6 true,.tmp 5]⟩
theorem wd:ax Tryz.prog [] Tryz.f12=some Cv:=kk
theorem we:aa Tryz.prog 12=true:=kk
end
section
open Go.RowKit
theorem Cw (v:V) (key:ByteArray) (hsz:v.size≤2000000000000):AC Tryz.prog 22 [(vA (v)),.str key] (Kh (bf key v.m)):=by
 have C:=v.size_eq;have I:=aU v.m;refine kE Tryz.func22 wb wc fun E J=> ?_
 refine kW ?_;refine aJ (fun k:Nat=>(au [(1,.str key),(2,.ptr 2 0),(4,.ptr 4 0),(6,.int .i64 k)],⟨ag [(2,(vC (v)),false),(4,[.int .i64 0,.bool false,.int .i64 0,.str ⟨#[]⟩,.lst .nil 6 [],.lst .nil 7 []],false)],fun _=>0⟩)) (fun k=>k≤v.m.length∧ ∀j p,j<k→v.m[j]? =some p→p.1≠key) (fun k=>v.m.length-k) 0 ⟨by omega,fun j p h=>by omega⟩ (wO ⟨kI,kI,kI,kI,trivial⟩ ⟨kJ,kJ,trivial⟩ rfl rfl) fun k ⟨P,hr⟩=> ?_
 refine kW ?_;refine kC (fun hb=> ?_) fun hb=> ?_
 ·have g:k<v.m.length:=by simpa [aj] using hb
  obtain ⟨⟨y,x⟩,hg⟩: ∃x,v.m[k]? =some x:=⟨_,gA1 g⟩
  refine kW ?_;refine kP [.c (.str y::(vC (x)))] ?_ ?_
  ·((repeat' apply aI)<;>first|exact kD|(intro i;refine ⟨?_,kG⟩;(repeat' apply aI)<;>first|exact kD|skip)|skip)
   ·exact aQ hg
  refine kC (fun hb=> ?_) fun hb=> ?_
  ·have r:y=key:=by simpa using hb
   subst r;refine kW ?_;refine kP [.c (.str y::(vC (x)))] ?_ ?_
   ·((repeat' apply aI)<;>first|exact kD|(intro i;refine ⟨?_,kG⟩;(repeat' apply aI)<;>first|exact kD|skip)|skip)
    ·exact aQ hg
   refine kW ?_;refine aR ⟨_,rfl,?_⟩;rw [AB hr hg];rfl
  ·have r:y≠key:=by simpa using hb
   refine kW ?_;exact AK.lp ⟨k+1,⟨by omega,I5 hr hg r⟩,wO ⟨kI,kI,kI,kU,trivial⟩ ⟨kJ,kJ,trivial⟩ rfl rfl,by omega⟩
 ·have g:k=v.m.length:=by have:v.m.length≤k:=by simpa [aj] using hb
                          omega
  subst g;refine AK.exit rfl ?_;refine kW ?_;refine aR ⟨_,rfl,?_⟩;rw [um hr];rfl
theorem Cx {v:V} {key:ByteArray} (hsz:v.size≤2000000000000) (h:bf key v.m=none):AC Tryz.prog 22 [(vA (v)),.str key] KR:=by
 have:=Cw v key hsz;rw [h] at this;exact this
theorem Cy {v:V} {key:ByteArray} (hsz:v.size≤2000000000000) {x:V} (h:bf key v.m=some x):AC Tryz.prog 22 [(vA (v)),.str key] (.tup [(vA (x)),.bool true]):=by
 have:=Cw v key hsz;rw [h] at this;exact this
theorem IA {p:Path} {k:Nat} {s:ByteArray} {u:V} (h:p[k]? =some s):V.get (p.drop k) u=(match bf s u.m with|none=>none|some x=>V.get (p.drop (k+1)) x):=by
 rw [dJ h,V.get];cases bf s u.m<;>rfl
theorem Ga (v:V) (p:Path) (hsz:v.size≤2000000000000) (J:p.length≤2000000000000):AC Tryz.prog 12 [(vA (v)),.lst .any 1 (bH p)] (Kh (v.get p)):=by
 refine kE Tryz.func12 wd we fun E P=> ?_
 refine kW ?_
 refine aJ (fun i:Nat×V=>(au [(1,.lst .any 1 (bH p)),(2,.ptr 2 0),(4,.ptr 4 0),(6,.int .i64 i.1)],⟨ag [(2,[.int .i64 i.2.kind,.bool i.2.b,.int .i64 i.2.n,.str i.2.s,.lst .any 6 (aF i.2.l),.lst .any 7 (ak i.2.m)],false),(4,[.int .i64 0,.bool false,.int .i64 0,.str ⟨#[]⟩,.lst .nil 6 [],.lst .nil 7 []],false)],fun _=>0⟩))
  (fun i=>i.1≤p.length∧i.2.size≤2000000000000∧V.get (p.drop i.1) i.2=v.get p) (fun i=>p.length-i.1) (0,v) ⟨by simp,hsz,rfl⟩ (wO ⟨kI,kI,kI,kI,trivial⟩ ⟨kJ,kJ,trivial⟩ rfl rfl) fun ⟨k,u⟩ ⟨I,r,hr⟩=> ?_
 dsimp only at I r hr;refine kW ?_;refine kC (fun hb=> ?_) fun hb=> ?_
 ·have g:k<p.length:=by simpa [cL] using hb
  obtain ⟨s,hg⟩: ∃x,p[k]? =some x:=⟨_,gA1 g⟩
  rw [IA hg] at hr;cases j:bf s u.m with
  |none=>
   rw [j] at hr;refine kW ?_;refine kP [.c [.str s],.v (.tup [.agg [.int .i64 0,.bool false,.int .i64 0,.str ⟨#[]⟩,.lst .any 6 [],.lst .any 7 []],.bool false])] ?_ ?_
   ·((repeat' apply aI)<;>first|exact kD|(intro C;refine ⟨?_,kG⟩;(repeat' apply aI)<;>first|exact kD|skip)|skip)
    ·exact vF hg
    ·exact Cx r j
   refine kW ?_;refine kC (fun hb=> ?_) fun hb=> ?_
   ·refine kW ?_
    refine aR ⟨_,rfl,?_⟩;rw [←hr];rfl
   ·cases hb
  |some x=>
   rw [j] at hr;refine kW ?_;refine kP [.c [.str s],.v (.tup [(vA (x)),.bool true])] ?_ ?_
   ·((repeat' apply aI)<;>first|exact kD|(intro C;refine ⟨?_,kG⟩;(repeat' apply aI)<;>first|exact kD|skip)|skip)
    ·exact vF hg
    ·exact Cy r j
   refine kW ?_;refine kC (fun hb=> ?_) fun hb=> ?_
   ·cases hb
   ·refine kW ?_
    have R:=uK j;exact AK.lp ⟨(k+1,x),⟨by dsimp only;omega,by dsimp only;omega,hr⟩,wO ⟨kI,kI,kI,kU,trivial⟩ ⟨kJ,kJ,trivial⟩ rfl rfl,by dsimp only;omega⟩
 ·have g:k=p.length:=by have:p.length≤k:=by simpa [cL] using hb
                        omega
  subst g;rw [List.drop_length,V.get] at hr;refine AK.exit rfl ?_;refine kW ?_;refine aR ⟨_,rfl,?_⟩;rw [←hr];rfl
theorem fQ {v:V} {p:Path} (hsz:v.size≤2000000000000) (g:p.length≤2000000000000) {x:V} (h:v.get p=some x):AC Tryz.prog 12 [(vA (v)),.lst .any 1 (bH p)] (.tup [(vA (x)),.bool true]):=by
 have:=Ga v p hsz g;rw [h] at this;exact this
theorem IB {l:List V} {k deep n:Nat} {x:V} (h:l[k]? =some x):wtL (l.drop k) deep n=if 6000<n+x.wt deep then (n+x.wt deep,true) else wtL (l.drop (k+1)) deep (n+x.wt deep):=by
 rw [dJ h,wtL]
theorem IC {l:List (ByteArray×V)} {k deep n:Nat} {y:ByteArray} {x:V} (h:l[k]? =some (y,x)):wtM (l.drop k) deep n=if 6000<n+(x.wt deep+y.size) then (n+(x.wt deep+y.size),true) else wtM (l.drop (k+1)) deep (n+(x.wt deep+y.size)):=by
 rw [dJ h,wtM]
theorem J8 {v:V} {deep:Nat} (h:40<deep):v.wt deep=1048576:=by rw [V.wt_eq,if_pos h]
theorem J9 {v:V} {deep:Nat} (h: ¬40<deep) (g:(wtL v.l (deep+1) (1+v.s.size)).2=true):v.wt deep=(wtL v.l (deep+1) (1+v.s.size)).1:=by rw [V.wt_eq,if_neg h,if_pos g]
theorem Lk {v:V} {deep n:Nat} (h: ¬40<deep) (g:wtL v.l (deep+1) (1+v.s.size)=(n,false)):v.wt deep=(wtM v.m (deep+1) n).1:=by rw [V.wt_eq,if_neg h,g];rfl
theorem ID (N:Nat): ∀(v:V) (deep:Nat),v.size≤N→v.sb→deep≤41→AC Tryz.prog 67 [(vA (v)),.int .i64 deep] (.int .i64 (v.wt deep:Nat)):=by
 induction N with
 |zero=>intro v _ h;have:=v.size_pos;omega
 |succ N ih=>
  intro v deep hn g hd;have U:=v.size_eq;have hss:=I7 g;have hll:=bk v.l;have hlm:=aU v.m;obtain ⟨hl1,hl2⟩:=KQ g;refine kE Tryz.func67 o0 o4 fun E hE=> ?_
  refine kW ?_;refine kC (fun hb=> ?_) fun hb=> ?_
  ·have J:40<deep:=by have:(40:Int)<deep:=by simpa using hb
                      omega
   refine kW ?_;refine aR ⟨_,rfl,?_⟩;exact congrArg (AV.int _) (by rw [J8 J];rfl)
  have J: ¬40<deep:=by have:(deep:Int)≤40:=by simpa using hb
                       omega
  refine kW ?_
  refine aJ (fun i:Nat×Nat=>(au [(1,.int .i64 deep),(2,.ptr 2 0),(5,.int .i64 (i.2:Nat)),(17,.lst .any 6 (aF v.l)),(18,.int .i64 (aF v.l).length),(19,.int .i64 i.1)],⟨ag [(2,(vC (v)),false)],fun _=>0⟩))
   (fun i=>i.1≤v.l.length∧i.2≤140737488361328∧wtL (v.l.drop i.1) (deep+1) i.2=wtL v.l (deep+1) (1+v.s.size)) (fun i=>v.l.length-i.1) (0,1+v.s.size) ⟨by simp,by simp;omega,rfl⟩ (wO ⟨kI,kI,kU,kI,kI,kI,trivial⟩ ⟨kJ,trivial⟩ rfl rfl) fun ⟨k,n⟩ ⟨P,p,hr⟩=> ?_
  dsimp only at P p hr;refine kW ?_;refine kC (fun hb=> ?_) fun hb=> ?_
  ·have j:k<v.l.length:=by simpa [ay] using hb
   obtain ⟨x,hg⟩: ∃x,v.l[k]? =some x:=⟨_,gA1 j⟩
   have hx:=cT hg;have R:=bR v.l (k+1);have T:=V.wt_sb (I6 g hg) (deep:=deep+1) (by omega);rw [IB hg] at hr;refine kW ?_;refine kP [.c (vC (x))] ?_ ?_
   ·((repeat' apply aI)<;>first|exact kD|(intro C;refine ⟨?_,kG⟩;(repeat' apply aI)<;>first|exact kD|skip)|skip)
    ·exact cn hg
   refine kW ?_;refine kP [.v (.int .i64 (x.wt (deep+1):Nat))] ?_ ?_
   ·((repeat' apply aI)<;>first|exact kD|(intro C;refine ⟨?_,kG⟩;(repeat' apply aI)<;>first|exact kD|skip)|skip)
    ·rw [aG (by omega) (by omega)]
     exact ih x (deep+1) (by omega) (I6 g hg) (by omega)
   refine kW ?_
   have r:IntKind.i64.wrap (((k,n).2:Nat)+(x.wt (deep+1):Nat))=((n+x.wt (deep+1):Nat):Int):=by
    rw [aG (by omega) (by omega)];omega
   refine kC (fun hb=> ?_) fun hb=> ?_
   ·have I:6000<n+x.wt (deep+1):=by
     have:(6000:Int)<(n+x.wt (deep+1):Nat):=by rw [←r];simpa using hb
     omega
    rw [if_pos I] at hr;refine kW ?_;refine aR ⟨_,rfl,?_⟩;exact congrArg (AV.int _) (by rw [J9 J (by rw [←hr]),←hr,r])
   ·have I: ¬6000<n+x.wt (deep+1):=by
     have:((n+x.wt (deep+1):Nat):Int)≤6000:=by rw [←r];simpa using hb
     omega
    rw [if_neg I] at hr;refine kW ?_;exact AK.lp ⟨(k+1,n+x.wt (deep+1)),⟨by dsimp only;omega,by dsimp only;omega,hr⟩,wO ⟨kI,kI,⟨_,rfl,.of_eq (congrArg _ r)⟩,kI,kI,kU,trivial⟩ ⟨kJ,trivial⟩ rfl rfl,by dsimp only;omega⟩
  ·have j:k=v.l.length:=by have:v.l.length≤k:=by simpa [ay] using hb
                           omega
   subst j;rw [List.drop_length,wtL] at hr;refine AK.exit rfl ?_;refine kW ?_
   refine aJ (fun i:Nat×Nat=>(au [(1,.int .i64 deep),(2,.ptr 2 0),(5,.int .i64 (i.2:Nat)),(34,.lst .any 7 (ak v.m)),(35,.int .i64 (ak v.m).length),(36,.int .i64 i.1)],⟨ag [(2,(vC (v)),false)],fun _=>0⟩))
    (fun i=>i.1≤v.m.length∧i.2≤140737488361328∧(wtM (v.m.drop i.1) (deep+1) i.2).1=v.wt deep) (fun i=>v.m.length-i.1) (0,n) ⟨by simp,p,(Lk J hr.symm).symm⟩ (wO ⟨kI,kI,kI,kI,kI,kI,trivial⟩ ⟨kJ,trivial⟩ rfl rfl) fun ⟨k,n⟩ ⟨P,p,hr⟩=> ?_
   dsimp only at P p hr;refine kW ?_;refine kC (fun hb=> ?_) fun hb=> ?_
   ·have j:k<v.m.length:=by simpa [aj] using hb
    obtain ⟨⟨y,x⟩,hg⟩: ∃x,v.m[k]? =some x:=⟨_,gA1 j⟩
    have hx:=cU hg;have R:=bu v.m (k+1);have T:=V.wt_sb (CT g hg).2 (deep:=deep+1) (by omega);have hy:=(CT g hg).1;rw [IC hg] at hr;refine kW ?_;refine kP [.c (.str y::(vC (x)))] ?_ ?_
    ·((repeat' apply aI)<;>first|exact kD|(intro C;refine ⟨?_,kG⟩;(repeat' apply aI)<;>first|exact kD|skip)|skip)
     ·exact aQ hg
    refine kW ?_;refine kP [.v (.int .i64 (x.wt (deep+1):Nat))] ?_ ?_
    ·((repeat' apply aI)<;>first|exact kD|(intro C;refine ⟨?_,kG⟩;(repeat' apply aI)<;>first|exact kD|skip)|skip)
     ·rw [aG (by omega) (by omega)]
      exact ih x (deep+1) (by omega) (CT g hg).2 (by omega)
    refine kW ?_
    have r:IntKind.i64.wrap (((k,n).2:Nat)+IntKind.i64.wrap ((x.wt (deep+1):Nat)+y.size))=((n+(x.wt (deep+1)+y.size):Nat):Int):=by
     rw [aG (n:=(x.wt (deep+1):Nat)+y.size) (by omega) (by omega),aG (by dsimp only;omega) (by dsimp only;omega)];dsimp only;omega
    refine kC (fun hb=> ?_) fun hb=> ?_
    ·have I:6000<n+(x.wt (deep+1)+y.size):=by
      have:(6000:Int)<(n+(x.wt (deep+1)+y.size):Nat):=by rw [←r];simpa using hb
      omega
     rw [if_pos I] at hr;refine kW ?_;refine aR ⟨_,rfl,?_⟩;exact congrArg (AV.int _) (by rw [←hr,r])
    ·have I: ¬6000<n+(x.wt (deep+1)+y.size):=by
      have:((n+(x.wt (deep+1)+y.size):Nat):Int)≤6000:=by rw [←r];simpa using hb
      omega
     rw [if_neg I] at hr;refine kW ?_;exact AK.lp ⟨(k+1,n+(x.wt (deep+1)+y.size)),⟨by dsimp only;omega,by dsimp only;omega,hr⟩,wO ⟨kI,kI,⟨_,rfl,.of_eq (congrArg _ r)⟩,kI,kI,kU,trivial⟩ ⟨kJ,trivial⟩ rfl rfl,by dsimp only;omega⟩
   ·have j:k=v.m.length:=by have:v.m.length≤k:=by simpa [aj] using hb
                            omega
    subst j;rw [List.drop_length,wtM] at hr;refine AK.exit rfl ?_;refine kW ?_;refine aR ⟨_,rfl,?_⟩;exact congrArg (AV.int _) (by rw [←hr])
theorem Ka (v:V) (g:v.sb):AC Tryz.prog 33 [(vA (v))] (.bool v.light_):=by
 refine kE Tryz.func33 qm qo fun E j=> ?_
 refine kW ?_;refine kP [.v (.int .i64 (v.wt 0:Nat))] ?_ ?_
 ·((repeat' apply aI)<;>first|exact kD|(intro i;refine ⟨?_,kG⟩;(repeat' apply aI)<;>first|exact kD|skip)|skip)
  ·exact ID _ v 0 (gA4 _) g (by omega)
 refine kW ?_;refine aR ⟨_,rfl,?_⟩;refine congrArg AV.bool ?_;rw [V.light_,Bool.eq_iff_iff];simp;omega
theorem D2 {l:List V} {k:Nat} {x:V} (h:l[k]? =some x):iF (l.drop k)=((x.light_&&decide (x.checkC=0))&&iF (l.drop (k+1))):=by
 unfold iF;rw [dJ h,List.all_cons]
theorem Kb (l:List V) (hl:l.length≤2000000000000) (h: ∀x∈l,x.sb):AC Tryz.prog 8 [.lst .any 6 (aF l)] (.bool (iF l)):=by
 refine kE Tryz.func8 qp qr fun E r=> ?_
 refine kW ?_
 refine aJ (fun k:Nat=>(au [(5,.lst .any 6 (aF l)),(6,.int .i64 (aF l).length),(7,.int .i64 k)],⟨ag [],fun _=>0⟩))
  (fun k=>k≤l.length∧iF (l.drop k)=iF l) (fun k=>l.length-k) 0 ⟨by simp,rfl⟩ (wO ⟨kI,kI,kI,trivial⟩ trivial rfl rfl) fun k ⟨C,hr⟩=> ?_
 refine kW ?_;refine kC (fun hb=> ?_) fun hb=> ?_
 ·have g:k<l.length:=by simpa [ay] using hb
  obtain ⟨x,hg⟩: ∃x,l[k]? =some x:=⟨_,gA1 g⟩
  have i:=h x (gA2 hg);rw [D2 hg] at hr;refine kW ?_;refine kP [.c (vC (x))] ?_ ?_
  ·((repeat' apply aI)<;>first|exact kD|(intro j;refine ⟨?_,kG⟩;(repeat' apply aI)<;>first|exact kD|skip)|skip)
   ·exact cn hg
  refine kW ?_;refine kP [.v (.bool x.light_),.v (.int .i64 x.checkC)] ?_ ?_
  ·((repeat' apply aI)<;>first|exact kD|(intro j;refine ⟨?_,kG⟩;(repeat' apply aI)<;>first|exact kD|skip)|skip)
   ·exact Ka x i
   ·exact Dw x i (by have:=V.light_size (show x.light_=true by simpa [gd] using j);omega)
  refine kC (fun hb=> ?_) fun hb=> ?_
  ·have p:(x.light_&&decide (x.checkC=0))=false:=by rcases (show x.light_=false∨ ¬x.checkC=0 by simpa using hb) with h|h<;>simp [h]
   rw [p,Bool.false_and] at hr;refine kW ?_;refine aR ⟨_,rfl,?_⟩;exact congrArg AV.bool hr
  ·have p:(x.light_&&decide (x.checkC=0))=true:=by simpa using hb
   rw [p,Bool.true_and] at hr;refine kW ?_;exact AK.lp ⟨k+1,⟨by omega,hr⟩,wO ⟨kI,kI,kU,trivial⟩ trivial rfl rfl,by omega⟩
 ·have g:k=l.length:=by have:l.length≤k:=by simpa [ay] using hb
                        omega
  subst g;rw [List.drop_length] at hr;refine AK.exit rfl ?_;refine kW ?_;refine aR ⟨_,rfl,?_⟩;exact congrArg AV.bool (by rw [←hr];rfl)
theorem D3 {a b:V}:(!decide (a.kind=b.kind)||(a.b !=b.b)|| !decide (a.n=b.n)|| !decide (a.s=b.s)|| !decide (((aF a.l).length:Int)=(aF b.l).length)|| !decide (((ak a.m).length:Int)=(ak b.m).length))=true→a≠b:=by
 rintro h rfl;simp at h
theorem Gb {a b:V} (h:(!decide (a.kind=b.kind)||(a.b !=b.b)|| !decide (a.n=b.n)|| !decide (a.s=b.s)|| !decide (((aF a.l).length:Int)=(aF b.l).length)|| !decide (((ak a.m).length:Int)=(ak b.m).length))=false):
  a.kind=b.kind∧a.b=b.b∧a.n=b.n∧a.s=b.s∧a.l.length=b.l.length∧a.m.length=b.m.length:=by
 simp only [ay,aj,Bool.or_eq_false_iff,Bool.not_eq_false',gB0,bne_eq_false_iff_eq] at h;obtain ⟨⟨⟨⟨⟨g,i⟩,j⟩,p⟩,r⟩,C⟩:=h;exact ⟨g,i,j,p,by omega,by omega⟩
theorem Ae {a b:V} (h:a≠b):AV.bool false= .bool (a.sameB b):=by rw [V.sameB_false.2 h]
theorem yA {α:Type} {l m:List α} {k:Nat} {x y:α} (h:l.take k=m.take k) (g:l[k]? =some x) (hy:m[k]? =some y) (e:x=y):l.take (k+1)=m.take (k+1):=by rw [d9 g,d9 hy,h,e]
set_option maxRecDepth 4000 in
theorem Gc (n:Nat): ∀a b:V,a.size≤n→a.size≤2000000000000→AC Tryz.prog 14 [(vA (a)),(vA (b))] (.bool (a.sameB b)):=by
 induction n with
 |zero=>intro v _ h;have:=v.size_pos;omega
 |succ n ih=>
  intro a b hn hsz;have C:=a.size_eq;have I:=bk a.l;have J:=aU a.m;refine kE Tryz.func14 sE sF fun E hE=> ?_
  refine kW ?_;refine kQ [] ?_;refine kC (fun hb=> ?_) fun hb=> ?_
  ·refine kW ?_
   refine aR ⟨_,rfl,?_⟩;exact Ae (D3 hb)
  obtain ⟨P,R,T,U,e5,e6⟩:=Gb hb;clear hb;refine kW ?_;refine aJ (fun k:Nat=>(au [(2,.ptr 2 0),(3,.ptr 3 0),(5,.int .i64 k)],⟨ag [(2,(vC (a)),false),(3,(vC (b)),false)],fun _=>0⟩)) (fun k=>k≤a.l.length∧a.l.take k=b.l.take k) (fun k=>a.l.length-k) 0 ⟨by omega,rfl⟩ (wO ⟨kI,kI,kI,trivial⟩ ⟨kJ,kJ,trivial⟩ rfl rfl) fun k ⟨hk,hr⟩=> ?_
  refine kW ?_;refine kC (fun hb=> ?_) fun hb=> ?_
  ·have g:k<a.l.length:=by simpa [ay] using hb
   obtain ⟨x,hg⟩: ∃x,a.l[k]? =some x:=⟨_,gA1 g⟩
   obtain ⟨y,hy⟩: ∃x,b.l[k]? =some x:=⟨_,gA1 (by omega)⟩
   have hx:=cT hg;have j:=bR a.l (k+1);refine kW ?_;refine kP [.c (vC (x)),.c (vC (y)),.v (.bool (x.sameB y))] ?_ ?_
   ·((repeat' apply aI)<;>first|exact kD|(intro r;refine ⟨?_,kG⟩;(repeat' apply aI)<;>first|exact kD|skip)|skip)
    ·exact cn hg
    ·exact cn hy
    ·exact ih x y (by omega) (by omega)
   refine kC (fun hb=> ?_) fun hb=> ?_
   ·have i:x≠y:=V.sameB_false.1 (by simpa using hb)
    refine kW ?_;refine aR ⟨_,rfl,?_⟩;exact Ae (by rintro rfl;rw [hg] at hy;exact i (Option.some.inj hy))
   ·have i:x=y:=V.sameB_true.1 (by simpa using hb)
    refine kW ?_;exact AK.lp ⟨k+1,⟨by omega,yA hr hg hy i⟩,wO ⟨kI,kI,kU,trivial⟩ ⟨kJ,kJ,trivial⟩ rfl rfl,by omega⟩
  ·have g:k=a.l.length:=by have:a.l.length≤k:=by simpa [ay] using hb
                           omega
   subst g;have e7:a.l=b.l:=by rw [List.take_length,e5,List.take_length] at hr;exact hr
   clear hr;refine AK.exit rfl ?_;refine kW ?_;refine aJ (fun k:Nat=>(au [(2,.ptr 2 0),(3,.ptr 3 0),(6,.int .i64 k)],⟨ag [(2,(vC (a)),false),(3,(vC (b)),false)],fun _=>0⟩)) (fun k=>k≤a.m.length∧a.m.take k=b.m.take k) (fun k=>a.m.length-k) 0 ⟨by omega,rfl⟩ (wO ⟨kI,kI,kI,trivial⟩ ⟨kJ,kJ,trivial⟩ rfl rfl) fun k ⟨hk,hr⟩=> ?_
   refine kW ?_;refine kC (fun hb=> ?_) fun hb=> ?_
   ·have g:k<a.m.length:=by simpa [aj] using hb
    obtain ⟨⟨p,x⟩,hg⟩: ∃x,a.m[k]? =some x:=⟨_,gA1 g⟩
    obtain ⟨⟨q,y⟩,hy⟩: ∃x,b.m[k]? =some x:=⟨_,gA1 (by omega)⟩
    have hx:=cU hg;have j:=bu a.m (k+1);refine kW ?_;refine kP [.c (.str p::(vC (x))),.c (.str q::(vC (y))),.c (.str p::(vC (x))),.c (.str q::(vC (y))),.v (.bool (x.sameB y))] ?_ ?_
    ·((repeat' apply aI)<;>first|exact kD|(intro r;refine ⟨?_,kG⟩;(repeat' apply aI)<;>first|exact kD|skip)|skip)
     ·exact aQ hg
     ·exact aQ hy
     ·exact aQ hg
     ·exact aQ hy
     ·exact ih x y (by omega) (by omega)
    refine kC (fun hb=> ?_) fun hb=> ?_
    ·have i: ¬(p=q∧x=y):=by
      rintro ⟨rfl,rfl⟩;rw [V.sameB_true.2 rfl] at hb;simp at hb
     refine kW ?_;refine aR ⟨_,rfl,?_⟩;exact Ae (by rintro rfl;rw [hg] at hy;cases hy;exact i ⟨rfl,rfl⟩)
    ·have i:p=q∧x=y:=by
      simp only [Bool.or_eq_false_iff,Bool.not_eq_false',gB0] at hb;exact ⟨hb.1,V.sameB_true.1 hb.2⟩
     refine kW ?_;exact AK.lp ⟨k+1,⟨by omega,yA hr hg hy (by rw [i.1,i.2])⟩,wO ⟨kI,kI,kU,trivial⟩ ⟨kJ,kJ,trivial⟩ rfl rfl,by omega⟩
   ·have g:k=a.m.length:=by have:a.m.length≤k:=by simpa [aj] using hb
                            omega
    subst g;have e8:a.m=b.m:=by rw [List.take_length,e6,List.take_length] at hr;exact hr
    refine AK.exit rfl ?_;refine kW ?_;refine aR ⟨_,rfl,?_⟩;exact congrArg AV.bool (V.sameB_true.2 (V.ext_iff'.2 ⟨P,R,T,U,e7,e8⟩)).symm
end
end Go.Proofs.YtbgflifmanjpjaaGreatDoor
