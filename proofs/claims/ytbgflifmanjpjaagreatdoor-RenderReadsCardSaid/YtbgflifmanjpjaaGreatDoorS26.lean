/- Part 26. -/
import Derived.Test.YtbgflifmanjpjaaGreatDoorS25
import Derived.Deep.RegionWith
set_option linter.unusedSimpArgs false
set_option linter.unusedVariables false
namespace Go.Proofs.YtbgflifmanjpjaaGreatDoor
section
open Go.RowKit
theorem JJ (a:Int) (w:World):Calls Tryz.prog 252 #[.int .i64 a] w fun e w' =>e= .returned (.bool false)∧w' =w:=by
 go_enter Tryz.func252,Tryz.ntmps252
 go_wp2_with fail
 go_ret
 exact ⟨by simp,rfl⟩
theorem JK (a:ByteArray) (w:World):Calls Tryz.prog 137 #[.string a] w fun e w' =>e= .returned (.bool false)∧w' =w:=by
 go_enter Tryz.func137,Tryz.ntmps137
 go_wp2_with fail
 go_ret
 exact ⟨by simp,rfl⟩
set_option maxRecDepth 100000 in
theorem JL (a b:Int) (w:World):Calls Tryz.prog 224 #[.int .i64 a,.int .i64 b] w fun e w' =>e= .returned (.int .i64 (wy a b))∧w' =w:=by
 have r:=Lib.hid fun a=>JJ a w
 obtain ⟨R,i⟩: ∃R,wy a b=R:=⟨_,rfl⟩
 rw [i];by_cases j:a<b
 ·rw [wy,if_pos j] at i
  subst i
  go_enter Tryz.func224,Tryz.ntmps224
  go_wp2_with (go_at_call 252;refine (r.out _).mono ?_;rintro e w1 ⟨rfl,rfl⟩)
  go_ret
  exact ⟨rfl,rfl⟩
 ·by_cases g:b<a
  ·rw [wy,if_neg j,if_pos g] at i
   subst i;have p:a>b:=g
   go_enter Tryz.func224,Tryz.ntmps224
   go_wp2_with (go_at_call 252;refine (r.out _).mono ?_;rintro e w1 ⟨rfl,rfl⟩)
   go_ret
   exact ⟨rfl,rfl⟩
  ·rw [wy,if_neg j,if_neg g] at i
   subst i;have p: ¬a>b:=g
   go_enter Tryz.func224,Tryz.ntmps224
   go_wp2_with (go_at_call 252;refine (r.out _).mono ?_;rintro e w1 ⟨rfl,rfl⟩)
   go_ret
   exact ⟨rfl,rfl⟩
theorem EP (a b:ByteArray):bW a b= -1∨bW a b=0∨bW a b=1:=by
 unfold bW;generalize a.data.toList=x;generalize b.data.toList=y
 induction x generalizing y with
 |nil=>cases y<;>simp [Lib.compareBytes]
 |cons c x ih=>
  cases y with
  |nil=>simp [Lib.compareBytes]
  |cons d y=>
   rw [Lib.compareBytes]
   (repeat' split)<;>first|exact .inl rfl|exact .inr (.inl rfl)|exact .inr (.inr rfl)|exact ih y
set_option maxRecDepth 100000 in
theorem CH (a b:ByteArray) (w:World):Calls Tryz.prog 85 #[.string a,.string b] w fun e w' =>e= .returned (.int .i64 (bW a b))∧w' =w:=by
 have P:=Lib.hid fun a=>JK a w
 have I:=EP a b;have i:=eE (a:=a) (b:=b);have j:=yZ a b;have C:=ip (a:=a) (b:=b);obtain ⟨R,J⟩: ∃R,bW a b=R:=⟨_,rfl⟩
 rw [J] at I i j C⊢;unfold klt at i j;cases p:Op.bytesLess a.toList b.toList with
 |true=>
  have r:R= -1:=by have:=i.2 p;omega
  subst r;clear J I i j C
  go_enter Tryz.func85,Tryz.ntmps85
  go_wp2_with (go_at_call 137;refine (P.out _).mono ?_;rintro e w1 ⟨rfl,rfl⟩)
  go_ret
  exact ⟨rfl,rfl⟩
 |false=>
  cases g:Op.bytesLess b.toList a.toList with
  |true=>
   have r:R=1:=by have:=j.2 g;omega
   have T:(a.toList==b.toList)=false:=by
    refine beq_eq_false_iff_ne.2 fun e=>D8 (a:=b) (b:=a) g ?_
    rw [ByteArray.toList_eq,ByteArray.toList_eq] at e;exact (ByteArray.ext (Array.toList_inj.1 e)).symm
   subst r;clear J I i j C
   go_enter Tryz.func85,Tryz.ntmps85
   go_wp2_with (go_at_call 137;refine (P.out _).mono ?_;rintro e w1 ⟨rfl,rfl⟩)
   go_ret
   exact ⟨rfl,rfl⟩
  |false=>
   have r:R=0:=by
    have U: ¬R<0:=fun h=>by rw [i.1 h] at p;cases p
    have k2: ¬0<R:=fun h=>by rw [j.1 h] at g;cases g
    omega
   have T:(a.toList==b.toList)=true:=by rw [C.1 r];simp
   subst r;clear J I i j C
   go_enter Tryz.func85,Tryz.ntmps85
   go_wp2_with (go_at_call 137;refine (P.out _).mono ?_;rintro e w1 ⟨rfl,rfl⟩)
   go_ret
   exact ⟨rfl,rfl⟩
theorem y0 {k:ByteArray}: ∀{l:List ByteArray} {j:Nat},l[j]? =some k→(∀i x,i<j→l[i]? =some x→x≠k)→fO k l=j
 | [],j,h,_=>by simp at h
 |x::l,0,h,_=>by simp at h;rw [fO,if_pos h]
 |x::l,j+1,h,hn=>by
  rw [fO,if_neg (hn 0 x (by omega) rfl),y0 (l:=l) (j:=j) (by simpa using h) fun i y hi hy=>hn (i+1) y (by omega) (by simpa using hy)]
theorem y1 {k:ByteArray}: ∀{l:List ByteArray},(∀(i:Nat) x,l[i]? =some x→x≠k)→fO k l=l.length
 | [],_=>rfl
 |x::l,h=>by rw [fO,if_neg (h 0 x rfl),y1 fun i y hy=>h (i+1) y (by simpa using hy)];rfl
theorem M9 (a b:ByteArray):(a.toList==b.toList)=decide (a=b):=by
 rw [Bool.eq_iff_iff,beq_iff_eq,gB0,ByteArray.toList_eq,ByteArray.toList_eq];exact ⟨fun e=>ByteArray.ext (Array.toList_inj.1 e),fun e=>by rw [e]⟩
def HE (k:ByteArray) (l:List ByteArray):Int:=if fO k l<l.length then fO k l else-1
theorem HG (l:List ByteArray) (hl:l.length≤1000) (k:ByteArray) (g cap:Nat) (w:World) (C: ∀j x,l[j]? =some x→w.cell? ⟨g,j,none⟩=some (.string x)):
  Calls Tryz.prog 253 #[.slice (some ⟨g,0,none⟩) l.length cap,.string k] w fun e w' =>e= .returned (.int .i64 (HE k l))∧w' =w:=by
 obtain ⟨R,I⟩: ∃R,HE k l=R:=⟨_,rfl⟩
 rw [I]
 have r: ∀j:Nat,l[j]? =some k→(∀i x,i<j→l[i]? =some x→x≠k)→R=j:=fun j h hn=>by
  rw [←I,HE,y0 h hn,if_pos (gA0 h).1]
 have p:(∀i x,i<l.length→l[i]? =some x→x≠k)→R= -1:=fun hn=>by
  rw [←I,HE,y1 fun i x hx=>hn i x (gA0 hx).1 hx,if_neg (by omega)]
 have J: ∀j:Nat,j<l.length→ ∃x,l[j]? =some x:=fun j h=>⟨_,gA1 h⟩
 obtain ⟨n,hn⟩: ∃n,l.length=n:=⟨_,rfl⟩
 rw [hn] at hl p J⊢;have HC:=Lib.hid C;have HF:=Lib.hid r;have HN:=Lib.hid p;have HX:=Lib.hid J;clear C r p I J hn
 go_enter Tryz.func253,Tryz.ntmps253
 go_wp2_with fail
 go_loopw [8] (fun i wr=> ∃j:Nat,j≤n∧i= .int .i64 j∧wr=w∧Hid (∀i x,i<j→l[i]? =some x→x≠k)) (fun i _=>n-(intOf i).toNat)
 case atStart=>exact ⟨0,by omega,rfl,rfl,Lib.hid fun j x h=>by omega⟩
 case round=>
  obtain ⟨j,hk,rfl,rfl,P⟩:=hrel;by_cases hlt:j<n
  ·obtain ⟨x,U⟩:=HX.out j hlt
   have hx:=HC.out j x U;have hlt' :((j:Nat):Int)<n:=by omega
   have hb:=M9 k x;by_cases T:x=k
   ·have I:=Lib.hid (HF.out j (T▸U) P.out)
    rw [decide_eq_true T.symm] at hb;clear P U T
    go_wp2_with fail
    go_ret
    exact ⟨by rw [I.out];rfl,rfl⟩
   ·have HT2:Hid (∀i x,i<j+1→l[i]? =some x→x≠k):=Lib.hid fun i y hi hy=>by
     by_cases e:i=j
     ·subst e;rw [U] at hy;cases hy;exact T
     ·exact P.out i y (by omega) hy
    rw [decide_eq_false (fun e=>T e.symm)] at hb;clear P T U
    go_wp2_with fail
    go_roundw
    case rel=>exact ⟨j+1,by omega,by go_num,trivial,HT2⟩
    case measure=>simp [intOf];omega
  ·have hk4: ¬((j:Nat):Int)<n:=by omega
   have I:=Lib.hid (HN.out fun i x hi=>P.out i x (by omega));clear P
   go_wp2_with fail
   go_ret
   exact ⟨by rw [I.out];rfl,rfl⟩
theorem CI {w:World} (hg:GW w) (j:Nat) (x:ByteArray) (h:CG[j]? =some x):w.cell? ⟨gi_order,j,none⟩=some (.string x):=by
 rw [hg.cell (l:=gv_order) (by simp [Bj]) j];have e:gv_order=CG.map Value.string:=rfl;rw [e,gA8,h];rfl
theorem JM (k:ByteArray) (w:World) (hg:GW w):Calls Tryz.prog 225 #[.string k] w fun e w' =>e= .returned (.int .i64 (eI k))∧w' =w:=by
 have j:=Lib.hid fun cap=>HG CG (by decide) k gi_order cap w (CI hg)
 have p:=Lt k;obtain ⟨R,r⟩: ∃R,eI k=R:=⟨_,rfl⟩
 obtain ⟨I,g⟩: ∃I,HE k CG=I:=⟨_,rfl⟩
 have i:(0≤I→I=R)∧(I<0→R=10):=by
  rw [←g,←r,HE];have J:fO k CG=eI k:=rfl;have P:CG.length=10:=rfl;rw [J,P];split<;>constructor<;>intro h<;>omega
 rw [g] at j;rw [r];clear r g hg p;by_cases C:I<0
 ·have e:=i.2 C
  subst e
  go_enter Tryz.func225,Tryz.ntmps225
  go_wp2_with (go_at_call 253;refine (j.out _).mono ?_;rintro e w1 ⟨rfl,rfl⟩)
  go_ret
  exact ⟨rfl,rfl⟩
 ·have e:=i.1 (by omega)
  subst e
  go_enter Tryz.func225,Tryz.ntmps225
  go_wp2_with (go_at_call 253;refine (j.out _).mono ?_;rintro e w1 ⟨rfl,rfl⟩)
  go_ret
  exact ⟨rfl,rfl⟩
end
section
set_option maxRecDepth 100000
set_option maxHeartbeats 20000000
def dL:List Nat:= [172,169,2000028,2000010,2000011,2000063]
noncomputable def lX:ACode:=bK Tryz.prog dL Tryz.f63
noncomputable def CJ:AFn:=⟨3,65,lX,[.tmp 6,.tmp 7,.tmp 8]⟩
theorem wz:aq Tryz.prog dL Tryz.f63=some CJ:=kk
theorem wA:ab Tryz.prog 63=true:=kk
noncomputable def xZ:ACode:=bK Tryz.prog dL Tryz.f114
noncomputable def x7:AFn:=⟨1,35,xZ,[.tmp 2,.tmp 3]⟩
theorem rq:aq Tryz.prog dL Tryz.f114=some x7:=kk
theorem ru:ab Tryz.prog 114=true:=kk
noncomputable def tM:ACode:=bK Tryz.prog dL Tryz.f170
noncomputable def tN:AFn:=⟨2,9,tM,[.tmp 4]⟩
theorem oJ:aq Tryz.prog dL Tryz.f170=some tN:=kk
theorem oK:ab Tryz.prog 170=true:=kk
noncomputable def rv:ACode:=bK Tryz.prog dL Tryz.f171
noncomputable def rz:AFn:=⟨2,29,rv,[.tmp 4]⟩
theorem m8:aq Tryz.prog dL Tryz.f171=some rz:=kk
theorem m9:ab Tryz.prog 171=true:=kk
noncomputable def AE:ACode:=bK Tryz.prog dL Tryz.f223
noncomputable def AF:AFn:=⟨1,18,AE,[.tmp 2]⟩
theorem tO:aq Tryz.prog dL Tryz.f223=some AF:=kk
theorem tP:ab Tryz.prog 223=true:=kk
noncomputable def fP:ACode:=bK Tryz.prog dL Tryz.f169
noncomputable def fQ:AFn:=⟨3,49,fP,[.tmp 6,.tmp 7]⟩
theorem cr:aq Tryz.prog dL Tryz.f169=some fQ:=kk
theorem ct:ab Tryz.prog 169=true:=kk
noncomputable def x8:ACode:=bK Tryz.prog dL Tryz.f29
noncomputable def x9:AFn:=⟨0,54,x8,[.tmp 0]⟩
theorem rA:aq Tryz.prog dL Tryz.f29=some x9:=kk
theorem rB:ab Tryz.prog 29=true:=kk
noncomputable def na:ACode:=bK Tryz.prog dL Tryz.f6
noncomputable def nc:AFn:=⟨1,32,na,[.tmp 2]⟩
theorem kg:aq Tryz.prog dL Tryz.f6=some nc:=kk
theorem kh:ab Tryz.prog 6=true:=kk
end
section
open Go.RowKit
def AG (s:ByteArray):Bool:=decide (∀k,(h:k<s.size)→s[k].toNat≠47)
def aC (s:ByteArray):Bool:=AG s&&(dF s&&decide (s.size≤64))
theorem Lv {s:ByteArray} {k:Nat} (h:k<s.size) (hb:s[k].toNat=47):AG s=false:=decide_eq_false fun hA=>hA k h hb
theorem Mg: ∀(l:List UInt8),decide (0≤Lib.indexByte l 47)=decide ((47:UInt8)∈l)
 | []=>rfl
 |b::l=>by
  rw [Lib.indexByte];have ih:=Mg l;by_cases h:b=47
  ·subst h;simp
  ·have hb:(b==47)=false:=by simpa using h
   rw [hb]
   have e:decide ((47:UInt8)∈b::l)=decide ((47:UInt8)∈l):=by
    rw [Bool.eq_iff_iff,gB0,gB0,List.mem_cons];exact ⟨fun i=>i.resolve_left fun e=>h e.symm,.inr⟩
   rw [e,←ih];by_cases g:Lib.indexByte l 47= -1
   ·simp [g]
   ·have j: -1≤Lib.indexByte l 47:=by
     clear ih e g
     induction l with
     |nil=>decide
     |cons c l ih=>rw [Lib.indexByte];split<;>(try split)<;>omega
    have p:(Lib.indexByte l 47== -1)=false:=by simpa using g
    simp only [Bool.false_eq_true,if_false,p];rw [Bool.eq_iff_iff,gB0,gB0];omega
theorem JN (s:ByteArray):(!decide ((47:UInt8)∈s.data.toList))=AG s:=by
 rw [Bool.eq_iff_iff,AG,Bool.not_eq_true',decide_eq_false_iff_not,gB0];constructor
 ·intro h k g e
  refine h ?_;have:s[k]=47:=UInt8.toNat_inj.1 e;rw [←this];exact Array.mem_toList_iff.2 (Array.getElem_mem g)
 ·intro h j
  obtain ⟨k,g,e⟩:=List.getElem_of_mem j;have i:k<s.size:=by simpa using g
  refine h k i ?_;have:s[k]=47:=by rw [←e];rfl
  rw [this];rfl
theorem AH (s:ByteArray):AC Tryz.prog 175 [.str s,.str ⟨#[47]⟩] (.bool (!AG s)):=by
 refine ⟨by kernel_rfl,fun σ w vs g hr hg=> ?_⟩;have hl:vs.length=2:=hr.1
 obtain ⟨v1,v2,rfl⟩: ∃a b,vs= [a,b]:=by
  rcases vs with _|⟨a,_|⟨b,_|⟨d,l⟩⟩⟩<;>simp at hl
  exact ⟨a,b,rfl⟩
 have i:Rel1 σ v1 (.str s):=hr.2 0 v1 _ rfl rfl;have j:Rel1 σ v2 (.str ⟨#[47]⟩):=hr.2 1 v2 _ rfl rfl;cases i;cases j;refine (Tryz.strings_Contains_one s 47 w).mono ?_;rintro e w' ⟨rfl,rfl⟩;rw [Mg,←JN,Bool.not_not];exact ⟨σ,_,rfl,Ext.refl _ _,g,Below.refl _ _,.bool _⟩
theorem Holds.on {σ:Sg} {w w' :World} (g:Holds σ w) (hb:Below w.heap.size w w'):Holds σ w' :=fun b q v i=>(hb.cell (p:=⟨b,q,none⟩) (World.block_lt_of_cell? w _ (g _ _ _ i))).trans (g _ _ _ i)
def oL:ByteArray:=⟨#[82,101,108,101,97,115,101]⟩
def AJ:ByteArray:=⟨#[100,101,102,97,117,108,116]⟩
structure Ob where
 k:ByteArray
 s:ByteArray
 n:ByteArray
 v:V
def Ob.rt (o:Ob):Bool:=aC o.k&&aC o.s&&aC o.n
abbrev obC (o:Ob):List AV:= .str o.k:: .str o.s:: .str o.n::vC o.v
def bF (l:List Ob):List (List AV):=l.map fun o=>obC o
def ob0:Ob:=⟨⟨#[]⟩,⟨#[]⟩,⟨#[]⟩,V.null⟩
theorem mK (l:List Ob):(bF l).length=l.length:=List.length_map _
theorem CK {l:List Ob} {k:Nat} {o:Ob} (h:l[k]? =some o):(bF l)[k]? =some (obC o):=by simp [bF,h]
theorem wB (l:List Ob) (o:Ob):bF (l++ [o])=bF l++ [obC o]:=by simp [bF]
theorem kCt {P:Program} {E:Env} {Q:Exit→Fr→St→Prop} {k:List AItem} {fr:Fr} {st:St} {x:Opd} {t e:ACode} (g:AK P E Q (.c t::k) fr st) (i:x.ev fr=some (.bool true):=by rfl):AK P E Q (.c (.cond x t e)::k) fr st:=AK.cond i (fun _=>g) fun h=>by cases h
theorem kCf {P:Program} {E:Env} {Q:Exit→Fr→St→Prop} {k:List AItem} {fr:Fr} {st:St} {x:Opd} {t e:ACode} (g:AK P E Q (.c e::k) fr st) (i:x.ev fr=some (.bool false):=by rfl):AK P E Q (.c (.cond x t e)::k) fr st:=AK.cond i (fun h=>by cases h) fun _=>g
theorem AC.same {P:Program} {f:FuncId} {args:List AV} {r:AV} (g:ab P f=true) (h: ∀(σ:Sg) (w:World) (vs:List Value),RelPs σ vs args→GW w→Calls P f vs.toArray w fun e w' =>(∃v,e= .returned v∧RelR σ v r)∧w' =w):AC P f args r:=
 ⟨g,fun σ w vs i hr hg=>(h σ w vs hr hg).mono fun e w' h=>by
  obtain ⟨⟨v,j,p⟩,rfl⟩:=h;exact ⟨σ,v,j,Ext.refl _ _,i,Below.refl _ _,p⟩⟩
theorem Na {α:Type} {l:List α} (h:l.length=1): ∃a,l= [a]:=by
 rcases l with _|⟨a,_|⟨b,l⟩⟩<;>simp at h
 exact ⟨a,rfl⟩
theorem JO {α:Type} {l:List α} (h:l.length=2): ∃a b,l= [a,b]:=by
 rcases l with _|⟨a,_|⟨b,_|⟨c,l⟩⟩⟩<;>simp at h
 exact ⟨a,b,rfl⟩
theorem JP (k:ByteArray):AC Tryz.prog 225 [.str k] (.int .i64 (eI k)):=
 AC.same (by kernel_rfl) fun σ w vs hr hg=>by
  obtain ⟨x,rfl⟩:=Na hr.1;have g:Rel1 σ x (.str k):=hr.2 0 x _ rfl rfl;cases g;exact (JM k w hg).mono fun e w' h=>⟨⟨_,h.1,Rel1.int _ _⟩,h.2⟩
theorem Nb (a b:Int):AC Tryz.prog 224 [.int .i64 a,.int .i64 b] (.int .i64 (wy a b)):=
 AC.same (by kernel_rfl) fun σ w vs hr hg=>by
  obtain ⟨x,y,rfl⟩:=JO hr.1;have g:Rel1 σ x (.int .i64 a):=hr.2 0 x _ rfl rfl;have i:Rel1 σ y (.int .i64 b):=hr.2 1 y _ rfl rfl;cases g;cases i;exact (JL a b w).mono fun e w' h=>⟨⟨_,h.1,Rel1.int _ _⟩,h.2⟩
theorem EQ (a b:ByteArray):AC Tryz.prog 85 [.str a,.str b] (.int .i64 (bW a b)):=
 AC.same (by kernel_rfl) fun σ w vs hr hg=>by
  obtain ⟨x,y,rfl⟩:=JO hr.1;have g:Rel1 σ x (.str a):=hr.2 0 x _ rfl rfl;have i:Rel1 σ y (.str b):=hr.2 1 y _ rfl rfl;cases g;cases i;exact (CH a b w).mono fun e w' h=>⟨⟨_,h.1,Rel1.int _ _⟩,h.2⟩
abbrev orR (a b c d:Int):List (List AV):= [[.int .i64 a],[.int .i64 b],[.int .i64 c],[.int .i64 d]]
theorem NO (a b c d:Int) (h:a≠0):AC Tryz.prog 223 [.lst .any 1 (orR a b c d)] (.int .i64 a):=by
 refine kE Tryz.func223 tO tP fun E g=> ?_
 refine kW ?_;refine aJ (fun _:Unit=>(ar [(3,.int .i64 0),(6,.lst .any 1 (orR a b c d)),(7,.int .i64 4),(8,.int .i64 0)],⟨ag [],fun _=>0⟩)) (fun _=>True) (fun _=>0) () trivial (wO ⟨kI,kI,kI,kI,trivial⟩ trivial rfl rfl) fun _ _=> ?_
 refine kW ?_;refine kCt ?_;refine kW ?_;refine kQ [.c [.int .i64 a]] ?_;refine kW ?_;refine kC (fun hb=> ?_) fun hb=> ?_
 ·refine kW ?_
  refine aR ⟨_,rfl,?_⟩;rfl
 ·exact absurd (by simpa using hb) h
theorem ER (k s n k' s' g:ByteArray) (c:Int) (i:wy (eI k) (eI k')=c) (h:c≠0):AC Tryz.prog 171 [.agg [.str k,.str s,.str n],.agg [.str k',.str s',.str g]] (.int .i64 c):=by
 have C:=JP k;have I:=JP k';have j:=Nb (eI k) (eI k');rw [i] at j;have J:=EQ k k';have c2:=EQ s s';have c3:=EQ n g;have p:=NO c (bW k k') (bW s s') (bW n g) h;refine kE Tryz.func171 m8 m9 fun E P=> ?_
 refine kW ?_;refine kP [.v (.int .i64 (eI k)),.v (.int .i64 (eI k')),.v (.int .i64 c),.v (.int .i64 (bW k k')),.v (.int .i64 (bW s s')),.v (.int .i64 (bW n g)),.v (.int .i64 c)] ?_ ?_
 ·((repeat' apply aI)<;>first|exact kD|(intro r;refine ⟨?_,kG⟩;(repeat' apply aI)<;>first|exact kD|skip)|skip)
  all_goals first|exact p|skip
 refine kW ?_;refine aR ⟨_,rfl,?_⟩;rfl
theorem Lw (o:Ob) (k' s' g:ByteArray) (i:wy (eI o.k) (eI k')=1):AC Tryz.prog 170 [.agg (obC o),.agg [.str k',.str s',.str g]] (.int .i64 1):=by
 have j:=ER o.k o.s o.n k' s' g 1 i (by decide);refine kE Tryz.func170 oJ oK fun E p=> ?_
 refine kW ?_;refine kQ [.v (.int .i64 1)] ?_;refine kW ?_;refine aR ⟨_,rfl,?_⟩;rfl
abbrev srF:AV:= .fn 170 []
theorem ES (k s n:ByteArray):AC Tryz.prog 169 [.lst .any 9 [],.agg [.str k,.str s,.str n],srF] (.tup [.int .i64 0,.bool false]):=by
 refine kE Tryz.func169 cr ct fun E i=> ?_
 refine kW ?_;refine aJ (fun _:Unit=>(ar [(0,.lst .any 9 []),(2,srF),(4,.ptr 4 0),(8,.int .i64 0),(9,.int .i64 0),(10,.int .i64 0)],⟨ag [(4,[.str k,.str s,.str n],false)],fun _=>0⟩)) (fun _=>True) (fun _=>0) () trivial (wO ⟨kI,kI,kI,kI,kI,kI,trivial⟩ ⟨kJ,trivial⟩ rfl rfl) fun _ _=> ?_
 refine kW ?_;refine kCf ?_;refine AK.exit rfl ?_;refine kW ?_;refine kP [.c (obC ⟨k,s,n,V.null⟩),.v (.int .i64 1)] ?_ ?_
 ·((repeat' apply aI)<;>first|exact kD|(intro g;refine ⟨?_,kG⟩;(repeat' apply aI)<;>first|exact kD|skip)|skip)
  all_goals (intro g;cases g)
 refine kW ?_;refine aR ⟨_,rfl,?_⟩;rfl
def Oc (o:Ob) (k s n:ByteArray):Bool→Fr×St
 |true=>(ar [(0,.lst .any 9 [obC o]),(2,srF),(4,.ptr 4 0),(8,.int .i64 1),(9,.int .i64 0),(10,.int .i64 1)],⟨ag [(4,[.str k,.str s,.str n],false)],fun _=>0⟩)
 |false=>(ar [(0,.lst .any 9 [obC o]),(2,srF),(4,.ptr 4 0),(8,.int .i64 1),(9,.int .i64 0),(10,.int .i64 0)],⟨ag [(4,[.str k,.str s,.str n],false)],fun _=>0⟩)
theorem ET (o:Ob) (k s n:ByteArray) (g:wy (eI o.k) (eI k)=1):AC Tryz.prog 169 [.lst .any 9 [obC o],.agg [.str k,.str s,.str n],srF] (.tup [.int .i64 0,.bool false]):=by
 have hF:=Lw o k s n g;refine kE Tryz.func169 cr ct fun E i=> ?_
 refine kW ?_;refine aJ (Oc o k s n) (fun _=>True) (fun j=>match j with|true=>1|false=>0) true trivial (wO ⟨kI,kI,kI,kI,kI,kI,trivial⟩ ⟨kJ,trivial⟩ rfl rfl) fun j _=> ?_
 cases j with
 |true=>
  refine kW ?_;refine kCt ?_;refine kW ?_;refine kQ [] ?_;refine AK.weak (fr' :=ar [(0,.lst .any 9 [obC o]),(2,srF),(4,.ptr 4 0),(8,.int .i64 1),(9,.int .i64 0),(10,.int .i64 1),(11,.int .i64 0)]) (st' :=⟨ag [(4,[.str k,.str s,.str n],false)],fun _=>0⟩) (wO ⟨kI,kI,kI,kI,kI,kI,kI,trivial⟩ ⟨kJ,trivial⟩ rfl rfl) ?_;refine kW ?_;refine kQ [.c (obC o),.v (.int .i64 1)] ?_;refine kCf ?_;refine kW ?_;exact AK.lp ⟨false,trivial,wO ⟨kI,kI,kI,kI,kI,kI,trivial⟩ ⟨kJ,trivial⟩ rfl rfl,by decide⟩
 |false=>
  refine kW ?_;refine kCf ?_;refine AK.exit rfl ?_;refine kW ?_;refine kQ [.c (obC o),.v (.int .i64 1)] ?_;refine kW ?_;refine aR ⟨_,rfl,?_⟩;rfl
theorem CL (l:List Ob):RowsOk 9 (bF l):=by
 refine ⟨by omega,fun c g=> ?_⟩;obtain ⟨o,_,rfl⟩:=List.mem_map.1 g;exact ⟨rfl,rfl⟩
def Lx (a b:Ob):Option (Bool×Nat×List AV)→Fr×St
 |none=>(ar [(4,.lst .nil 9 []),(9,.lst .any 9 (bF [a,b])),(10,.int .i64 2),(11,.int .i64 0)],⟨ag [],fun _=>0⟩)
 |some (false,cap,cs)=>(ar [(4,.sli 1000032 9 1 cap),(9,.lst .any 9 (bF [a,b])),(10,.int .i64 2),(11,.int .i64 1)],⟨ag [(1000032,cs,false)],fun _=>0⟩)
 |some (true,cap,cs)=>(ar [(4,.sli 1000032 9 2 cap),(9,.lst .any 9 (bF [a,b])),(10,.int .i64 2),(11,.int .i64 2)],⟨ag [(1000032,cs,false)],fun _=>0⟩)
def Od (a b:Ob):Option (Bool×Nat×List AV)→Prop
 |none=>True
 |some (false,cap,cs)=>RowCs 9 (bF [a]) cap cs
 |some (true,cap,cs)=>RowCs 9 (bF [b,a]) cap cs
theorem Ly (a b:Ob) (I:wy (eI a.k) (eI b.k)=1) (T:a.v.size≤1000000) (U:b.v.size≤1000000):AC Tryz.prog 114 [.lst .any 9 (bF [a,b])] (.tup [.lst .any 9 (bF [b,a]),.int .i64 0]):=by
 have J:=fy a.v (by omega);have P:=fy b.v (by omega);have s0:=ES a.k a.s a.n;have R:=ET a b.k b.s b.n I;refine kE Tryz.func114 rq ru fun E hE=> ?_
 refine kW ?_;refine aJ (Lx a b) (Od a b) (fun i=>match i with|none=>2|some (false,_,_)=>1|some (true,_,_)=>0) none trivial (wO ⟨kI,kI,kI,kI,trivial⟩ trivial rfl rfl) fun i C=> ?_
 rcases i with _|⟨_|_,cap,cs⟩
 ·simp only [Lx]
  refine kW ?_;refine kCt ?_;refine kW ?_;refine kQ [.c (obC a)] ?_;refine kW ?_;refine kP [.v (.tup [.int .i64 0,.bool false])] ?_ ?_
  ·((repeat' apply aI)<;>first|exact kD|(intro g;refine ⟨?_,kG⟩;(repeat' apply aI)<;>first|exact kD|skip)|skip)
   all_goals exact s0
  refine kW ?_;refine kCf ?_;refine kW ?_;refine kP [.v ((vA (a.v))),.n 9 (bF [a])] ?_ ?_
  ·((repeat' apply aI)<;>first|exact kD|(intro g;refine ⟨?_,kG⟩;(repeat' apply aI)<;>first|exact kD|skip)|skip)
   all_goals first|exact J|exact EN _|skip
  (repeat (first|apply AK.seq|apply AK.block|apply AK.blk|apply AK.skip))
  refine AK.open2 32 1000032 rfl (by omega) rfl (CL _) fun cap cs hr=> ?_
  refine kW ?_;exact AK.lp ⟨some (false,cap,cs),hr,wO ⟨kI,kI,kI,kU,trivial⟩ ⟨kJ,trivial⟩ rfl rfl (by exact ⟨hr.un,trivial⟩),by show (1:Nat)<2;decide⟩
 ·have hr:RowCs 9 (bF [a]) cap cs:=C
  simp only [Lx];refine kW ?_;refine kCt ?_;refine kW ?_;refine kQ [.c (obC b)] ?_;refine kW ?_;refine kP [.b (bF [a]) (.tup [.int .i64 0,.bool false])] ?_ ?_
  ·((repeat' apply aI)<;>first|exact kD|(intro g;refine ⟨?_,kG⟩;(repeat' apply aI)<;>first|exact kD|skip)|skip)
   all_goals first|exact hr.sp|exact hr.len|exact hr.ok.2|exact R|skip
  refine kW ?_;refine kCf ?_;refine kW ?_;refine kP [.v ((vA (b.v))),.m (bF [a]) (bF [b,a])] ?_ ?_
  ·((repeat' apply aI)<;>first|exact kD|(intro g;refine ⟨?_,kG⟩;(repeat' apply aI)<;>first|exact kD|skip)|skip)
   all_goals first|exact P|exact hr.sp|exact hr.len|exact hr.ok.2|exact EO (bF [a]) 0 (obC b) (gB8 _) (by show (1+1)*136≤_;decide)|skip
  (repeat (first|apply AK.seq|apply AK.block|apply AK.blk|apply AK.skip))
  refine AK.open2 32 1000032 rfl (by omega) rfl (CL _) fun j r p=> ?_
  refine kW ?_;exact AK.lp ⟨some (true,j,r),p,wO ⟨kI,kI,kI,kU,trivial⟩ ⟨kJ,trivial⟩ rfl rfl (by exact ⟨p.un,trivial⟩),by show (0:Nat)<1;decide⟩
 ·have hr:RowCs 9 (bF [b,a]) cap cs:=C
  simp only [Lx];refine kW ?_;refine kCf ?_;refine AK.exit rfl ?_
  (repeat (first|apply AK.seq|apply AK.block|apply AK.blk|apply AK.skip))
  refine AK.fz 1000032 rfl ?_;refine AK.weak (wO (L:= [(4,.lst .any 9 (bF [b,a]))]) (BL:= []) ⟨⟨_,rfl,.one (hr.le rfl)⟩,trivial⟩ trivial rfl rfl (by exact trivial)) ?_;refine kW ?_;refine aR ⟨_,rfl,?_⟩;rfl
end
end Go.Proofs.YtbgflifmanjpjaaGreatDoor
