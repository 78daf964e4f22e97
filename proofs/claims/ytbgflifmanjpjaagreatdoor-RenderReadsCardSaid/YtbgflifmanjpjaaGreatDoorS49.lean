/- Part 49. -/
import Derived.Test.YtbgflifmanjpjaaGreatDoorS48
import Derived.Lib.Join
set_option linter.unusedSimpArgs false
set_option linter.unusedVariables false
namespace Go.Proofs.YtbgflifmanjpjaaGreatDoor
open Go.RowKit
def GG (x:Bs):Bool:=tr x== [45,45,45]
def oa (st:List (List Bs)×List Bs) (x:Bs):List (List Bs)×List Bs:=if GG x=true then (st.1++ [st.2],[]) else (st.1,st.2++ [x])
def nF (st:List (List Bs)×List Bs) (l:List Bs):List (List Bs)×List Bs:=l.foldl oa st
def g8:Bs→List Bs
 | []=> [[]]
 |c::t=>if c=10 then []::g8 t else match g8 t with
  | []=> [[c]]
  |x::l=>(c::x)::l
def sS (s:Bs):List Bs:=((nF ([],[]) (g8 s)).1++ [(nF ([],[]) (g8 s)).2]).map (da 10)
theorem xq: ∀s:Bs,g8 s≠ []
 | []=>by simp [g8]
 |c::t=>by
  rw [g8];split
  ·simp
  ·split<;>simp
theorem DL: ∀(s:Bs),∀x∈g8 s,(10:UInt8)∉x
 | [],x,h=>by rw [g8,List.mem_singleton] at h;subst h;simp
 |c::t,x,h=>by
  have ih:=DL t;rw [g8] at h;split at h
  ·rcases gB2 h with rfl|h
   ·simp
   ·exact ih x h
  ·rename_i g
   split at h
   ·rw [List.mem_singleton] at h;subst h;simpa using Ne.symm g
   ·rename_i y l i
    rw [i] at ih;rcases gB2 h with rfl|h
    ·simp only [List.mem_cons,not_or]
     exact ⟨Ne.symm g,ih y (by simp)⟩
    ·exact ih x (by simp [h])
theorem zq: ∀s:Bs,da 10 (g8 s)=s
 | []=>rfl
 |c::t=>by
  have ih:=zq t;rw [g8];split
  ·rename_i g
   subst g;cases h:g8 t with
   |nil=>exact absurd h (xq t)
   |cons x l=>rw [kq,←h,ih];rfl
  ·split
   ·rename_i h;exact absurd h (xq t)
   ·rename_i x l h
    rw [h] at ih;rw [←ih];rfl
theorem xr (s:ByteArray):(cj 10 s).map (fun x=>x.data.toList)=g8 s.data.toList:=H7 (xq _) (DL _) (zq _).symm
theorem KG (st:List (List Bs)×List Bs) (a b:List Bs):nF st (a++b)=nF (nF st a) b:=List.foldl_append
theorem DM: ∀l:List Bs,Lib.join l [10]=da 10 l
 | []=>rfl
 | [x]=>by simp [Lib.join,da,List.intercalate]
 |x::y::l=>by
  have ih:=DM (y::l);rw [kq,←ih];simp [Lib.join,List.intercalate,List.intersperse]
theorem zr {M:Nat}: ∀l:List Bs,(∀x∈l,x.length≤M)→(da 10 l).length≤l.length*(M+1)
 | [],_=>by simp [da]
 | [x],h=>by have:=h x (by simp);simp [da];omega
 |x::y::l,h=>by
  have ih:=zr (y::l) fun z g=>h z (by simp [gB2 g])
  have i:=h x (by simp);rw [kq,gA5,gA3];have e:(x::y::l).length*(M+1)=(M+1)+(y::l).length*(M+1):=by rw [gA3 (a:=x),gC3];omega
  omega
theorem DN: ∀(l:List Bs) (st:List (List Bs)×List Bs) (P:Bs→Prop),(∀x∈l,P x)→(∀x∈st.2,P x)→(∀b∈st.1,∀x∈b,P x)→(∀x∈(nF st l).2,P x)∧ ∀b∈(nF st l).1,∀x∈b,P x
 | [],st,P,_,i,j=>⟨i,j⟩
 |y::l,st,P,p,i,j=>by
  refine DN l (oa st y) P (fun x g=>p x (by simp [g])) ?_ ?_
  ·unfold oa
   split
   ·intro x g;cases g
   ·intro x g
    rcases gB5 g with g|g
    ·exact i x g
    ·rw [gB1 g];exact p y (by simp)
  ·unfold oa
   split
   ·intro b hb
    rcases gB5 hb with hb|hb
    ·exact j b hb
    ·rw [gB1 hb];exact i
   ·exact j
theorem xt: ∀(l:List Bs) (st:List (List Bs)×List Bs),(nF st l).1.length+(nF st l).2.length≤st.1.length+st.2.length+l.length
 | [],st=>by simp [nF]
 |y::l,st=>by
  have:=xt l (oa st y);show (nF (oa st y) l).1.length+(nF (oa st y) l).2.length≤_;refine gB7 this ?_;unfold oa;split<;>simp<;>omega
def bL:ByteArray:=⟨#[107,105,110,100]⟩
def bq:ByteArray:=⟨#[109,101,116,97,100,97,116,97]⟩
def dv:ByteArray:=⟨#[110,97,109,101]⟩
def kNs:ByteArray:=⟨#[110,97,109,101,115,112,97,99,101]⟩
def mv (key:ByteArray) (v:V):V:=(aU key v.m).getD V.null
def ig (v:V):Ob:=⟨(mv bL v).s,if (aU kNs (mv bq v).m).isSome=true then (mv kNs (mv bq v)).s else AJ,(mv dv (mv bq v)).s,v⟩
def g9 (v:V):Ob×Int:=if v.checkC≠0 then (ob0,v.checkC) else if (!(ig v).rt||decide ((ig v).k=oL))=true then (ob0,26) else (ig v,0)
def hU:List ByteArray→List Ob→List Ob×Int
 | [],out=>(out,0)
 |d::ds,out=>if (aY d).2≠0 then ([],(aY d).2) else if (aY d).1.kind=0 then hU ds out else if (g9 (aY d).1).2≠0 then ([],(g9 (aY d).1).2) else hU ds (out++ [(g9 (aY d).1).1])
def jI (s:ByteArray):List Ob×Int:=hU ((sS s.data.toList).map toB) []
theorem Ir:V.null.good:=(V.check_good iw).1
theorem iA {v:V} (h:v.good) (key:ByteArray):(mv key v).good∧(mv key v).size≤v.size∧(mv key v).s.size≤65536:=by
 have g:(mv key v).good∧(mv key v).size≤v.size:=by
  unfold mv;cases i:aU key v.m with
  |none=>exact ⟨Ir,by rw [Option.getD_none,cT];exact v.size_pos⟩
  |some x=>exact ⟨(qa h (fY i)).2,Nat.le_of_lt (vV i)⟩
 exact ⟨g.1,g.2,rP ((V.good_eq _).1 g.1).2.1⟩
theorem KH {v:V} (h:(g9 v).2=0):v.checkC=0∧(ig v).rt=true∧(ig v).k≠oL∧(g9 v).1=ig v:=by
 unfold g9 at h⊢;split at h
 ·rename_i g;exact absurd h g
 rename_i g;split at h
 ·cases h
 rename_i i;rw [if_neg g,if_neg i];simp at g i;exact ⟨g,i.1,i.2,rfl⟩
theorem sd: ∀(ds:List ByteArray) (out:List Ob),(hU ds out).1.length≤out.length+ds.length
 | [],out=>gA4 _
 |d::ds,out=>by
  have g:=sd ds out;have i:=sd ds (out++ [(g9 (aY d).1).1]);rw [hU]
  (repeat' split)<;>simp at g i⊢ <;>omega
theorem se {P:Ob→Prop} (i: ∀d,(aY d).2=0→(g9 (aY d).1).2=0→P (g9 (aY d).1).1): ∀(ds:List ByteArray) (out:List Ob),(∀o∈out,P o)→ ∀o∈(hU ds out).1,P o
 | [],out,h=>h
 |d::ds,out,h=>by
  rw [hU];split
  ·intro o g;cases g
  rename_i j;split
  ·exact se i ds out h
  split
  ·intro o g;cases g
  rename_i p;refine se i ds _ fun o g=> ?_
  rcases gB5 g with g|g
  ·exact h o g
  ·rw [gB1 g]
   exact i d (Decidable.not_not.1 j) (Decidable.not_not.1 p)
theorem zt (s:ByteArray): ∀o∈(jI s).1,o.v.good∧o.v.size≤4096∧o.rt=true∧o.k≠oL:=by
 refine se (fun d I i=> ?_) _ [] (fun o j=>by cases j);obtain ⟨g,p,r,C⟩:=KH i;rw [C];exact ⟨(V.check_good g).1,(V.check_good g).2.1,p,r⟩
theorem sf (s:ByteArray):((sS s.data.toList).map toB).length≤s.size+2:=by
 have g:=xt (g8 s.data.toList) ([],[]);have i:=pT 10 s;rw [←xr,List.length_map] at g;unfold sS;simp only [List.length_map,gA5,gA3,List.length_nil] at g⊢;rw [xr] at g;omega
theorem Is (s:ByteArray):(jI s).1.length≤s.size+2:=by
 have g:=sd ((sS s.data.toList).map toB) [];have i:=sf s;unfold jI;simp only [List.length_nil] at g;omega
theorem Nq {σ:Sg} {v:Value} {a:AV} (h:RelP σ v a):RelPs σ [v] [a]:=⟨rfl,fun j u x g i=>by
 rcases j with _|j<;>simp at g i
 subst g i;exact h⟩
theorem GH {f:FuncId} {args:List AV} {b:Bool} (h:AC Tryz.prog f args (.bool b)) {σ:Sg} {w:World} {vs:List Value} (g:Holds σ w) (hr:RelPs σ vs args) (hg:GW w):Calls Tryz.prog f vs.toArray w fun e w' =>e= .returned (.bool b)∧Below w.heap.size w w' :=by
 refine (h.run σ w vs g hr hg).mono ?_;rintro e w' ⟨σ',v,rfl,_,_,hb,hr⟩;have hr:Rel1 σ' v (.bool b):=hr;cases hr;exact ⟨rfl,hb⟩
theorem dd {P:Program} {g:Array Oper} {rest:List Oper} {tmps:Array Value} {r:List Deferred} {w:World} {Q:Exit→Act→World→Prop} {d:Option Tmp} {C:TypeId} {ps:String} {I:Array Edge}
  (p q:Tmp) (ty:TypeId) (cs:Array Value) (i u:Value) (J:tmps.getD p undef= .agg cs) (R:tmps.getD q undef=i) (j:(Instr.index ty (.agg cs) i).run P w= .ok u w)
  (h:wpList P g Q rest (({tmps:=tmps,defers:=r}:Act).put d u) w):
  wpList P g Q ({dst:=d,op:= .index ty (.tmp p) (.tmp q),type:=C,pos:=ps,after:=I,guard:=none}::rest) {tmps:=tmps,defers:=r} w:=by
 refine wpList_plain rfl fun K T=> ?_
 have U:({tmps:=tmps,defers:=r}:Act).eval (.tmp p)= .agg cs:=J;have e2:({tmps:=tmps,defers:=r}:Act).eval (.tmp q)=i:=R;unfold Oper.wp execOp;simp only [U,e2,Sem.run_bind,Sem.run_pure,Result.andThen_ok,j];exact T _ _ h
theorem qk (cs:Array Value) (j:Nat) (x:ByteArray) (r:j<3) (g:cs[j]? =some (.string x)) (w:World):(Instr.index 219 (.agg cs) (.int .i64 j)).run Tryz.prog w= .ok (.string x) w:=by
 have i:((j:Int)<3):=by omega
 have p: ¬3≤j:=by omega
 simp [Instr.index,asIntOf,run_underlying Tryz.underlying219,i,part,Tryz.isAgg9,Tryz.sizeOf9,g,p]
set_option maxHeartbeats 2000000 in
set_option maxRecDepth 100000 in
theorem It (a b c:ByteArray) (ha:a.size≤140737488355328) (hb:b.size≤140737488355328) (hc:c.size≤140737488355328) (w:World) (hg:GW w):
  Calls Tryz.prog 116 #[.agg #[.string a,.string b,.string c]] w fun e w' =>e= .returned (.bool (aC a&&aC b&&aC c))∧Below w.heap.size w w' :=by
 obtain ⟨R,hR⟩: ∃R,(aC a&&aC b&&aC c)=R:=⟨_,rfl⟩
 rw [hR];have hB: ∀x:ByteArray,x.size≤140737488355328→ ∀w',Below w.heap.size w w' →Calls Tryz.prog 53 #[.string x] w' fun e w2=>e= .returned (.bool (dF x))∧Below w'.heap.size w' w2:=fun x hx w' h=>GH (σ:=fun _ _=>none) (vs:= [.string x]) (Em x hx) (fun _ _ _ h=>by cases h) (Nq (.str _)) (hg.below h)
 have hC: ∀x:ByteArray,∀w',Below w.heap.size w w' →Calls Tryz.prog 175 #[.string x,.string ⟨#[47]⟩] w' fun e w2=>e= .returned (.bool (!AG x))∧Below w'.heap.size w' w2:=fun x w' h=>GH (σ:=fun _ _=>none) (vs:= [.string x,.string ⟨#[47]⟩]) (AH x) (fun _ _ _ h=>by cases h) ⟨rfl,fun j v u hv hu=>by
  rcases j with _|_|j<;>simp at hv hu<;>(subst hv hu;exact Rel1.str _)⟩ (hg.below h)
 have hall: ∀(j:Nat) (x:ByteArray),[a,b,c][j]? =some x→x.size≤140737488355328:=fun j x h=>by
  rcases j with _|_|_|j<;>simp at h<;>subst h<;>assumption
 have J: ∀(j:Nat) (x:ByteArray),[a,b,c][j]? =some x→(#[.string a,.string b,.string c]:Array Value)[j]? =some (.string x):=fun j x h=>by
  rcases j with _|_|_|j<;>simp at h<;>subst h<;>rfl
 have g: ∀(j:Nat) (x:ByteArray),[a,b,c][j]? =some x→aC x=false→R=false:=fun j x h hx=>by
  rw [←hR];rcases j with _|_|_|j<;>simp at h<;>subst h<;>simp [hx]
 have P:(∀(j:Nat) (x:ByteArray),j<3→ [a,b,c][j]? =some x→aC x=true)→R=true:=fun h=>by
  rw [←hR,h 0 a (by omega) rfl,h 1 b (by omega) rfl,h 2 c (by omega) rfl];rfl
 have HB:=Lib.hid hB;have HC:=Lib.hid hC;have H1:=Lib.hid hall;have H2:=Lib.hid J;have H3:=Lib.hid g;have H4:=Lib.hid P;clear hB hC hall J g P hg hR
 go_enter Tryz.func116,Tryz.ntmps116
 go_wp2_with fail
 go_loopw [12] (fun i wr=> ∃k:Nat,k≤3∧i= .int .i64 k∧Below w.heap.size w wr∧Hid (∀(j:Nat) (x:ByteArray),j<k→ [a,b,c][j]? =some x→aC x=true)) (fun i _=>3-(intOf i).toNat)
 case atStart=>exact ⟨0,by omega,rfl,(Below.refl _ _).alloc (gA4 _) _,Lib.hid fun j x h=>by omega⟩
 case round=>
  obtain ⟨k,hk,rfl,p,hT⟩:=hrel;by_cases T:k<3
  ·obtain ⟨x,hx⟩: ∃x,[a,b,c][k]? =some x:=⟨_,gA1 T⟩
   have hxz:=H1.out k x hx;have hcx:=H2.out k x hx;have I:=HB.out x hxz wr p;have g:aC x=false→Hid (R=false):=fun h=>Lib.hid (H3.out k x hx h)
   have r:aC x=true→Hid (∀(j:Nat) (x:ByteArray),j<k+1→ [a,b,c][j]? =some x→aC x=true):=fun h=>Lib.hid fun j y hj hy=>by
    by_cases e:j=k
    ·subst e;rw [hx] at hy;cases hy;exact h
    ·exact hT.out j y (by omega) hy
   unfold aC at g r;clear hx hT;cases h1:dF x with
   |false=>
    rw [h1] at I g;have HN:=g (by simp);clear g r
    go_wp2_with (first|refine dd 11 12 219 _ _ (.string x) rfl rfl (qk _ k x T hcx _) ?_|(go_at_call 53;refine I.mono ?_;rintro e w1 ⟨rfl,C⟩))
    go_ret
    exact ⟨by rw [HN.out];rfl,p.trans (C.mono p.size)⟩
   |true=>
    rw [h1] at I g r;have U: ∀w1,Below wr.heap.size wr w1→Calls Tryz.prog 175 #[.string x,.string ⟨#[47]⟩] w1 fun e w2=>e= .returned (.bool (!AG x))∧Below w1.heap.size w1 w2:=fun w1 C=>HC.out x w1 (p.trans (C.mono p.size))
    cases h2:AG x with
    |false=>
     rw [h2] at U g;have HN:=g (by simp);clear g r
     go_wp2_with (first|refine dd 11 12 219 _ _ (.string x) rfl rfl (qk _ k x T hcx _) ?_|(go_at_call 53;refine I.mono ?_;rintro e w1 ⟨rfl,C⟩)|(go_at_call 175;refine (U w1 C).mono ?_;rintro e w2 ⟨rfl,b2⟩))
     go_ret
     exact ⟨by rw [HN.out];rfl,(p.trans (C.mono p.size)).trans (b2.mono (gB7 p.size C.size))⟩
    |true=>
     rw [h2] at U g r;by_cases hz:x.size≤64
     ·have HN:=r (by simpa using hz)
      have hz' : ¬(64:Int)<x.size:=by omega
      clear g r
      go_wp2_with (first|refine dd 11 12 219 _ _ (.string x) rfl rfl (qk _ k x T hcx _) ?_|(go_at_call 53;refine I.mono ?_;rintro e w1 ⟨rfl,C⟩)|(go_at_call 175;refine (U w1 C).mono ?_;rintro e w2 ⟨rfl,b2⟩))
      go_wp2
      go_roundw
      case rel=>exact ⟨k+1,by omega,by go_num,(p.trans (C.mono p.size)).trans (b2.mono (gB7 p.size C.size)),HN⟩
      case measure=>simp [intOf];omega
     ·have HN:=g (by simpa using hz)
      have hz' :(64:Int)<x.size:=by omega
      clear g r
      go_wp2_with (first|refine dd 11 12 219 _ _ (.string x) rfl rfl (qk _ k x T hcx _) ?_|(go_at_call 53;refine I.mono ?_;rintro e w1 ⟨rfl,C⟩)|(go_at_call 175;refine (U w1 C).mono ?_;rintro e w2 ⟨rfl,b2⟩))
      go_ret
      exact ⟨by rw [HN.out];rfl,(p.trans (C.mono p.size)).trans (b2.mono (gB7 p.size C.size))⟩
  ·have hk3:k=3:=by omega
   subst hk3;have HN:=Lib.hid (H4.out hT.out);clear hT
   go_wp2_with fail
   go_ret
   exact ⟨by rw [HN.out];rfl,p⟩
theorem L6 (a b c:ByteArray) (j:a.size≤140737488355328) (hb:b.size≤140737488355328) (p:c.size≤140737488355328):AC Tryz.prog 116 [.agg [.str a,.str b,.str c]] (.bool (aC a&&aC b&&aC c)):=by
 refine ⟨by kernel_rfl,fun σ w vs r hr hg=> ?_⟩;obtain ⟨v,rfl⟩: ∃v,vs= [v]:=List.length_eq_one_iff.1 hr.1
 obtain ⟨us,rfl,g⟩:=(hr.2 0 v _ rfl rfl:RelP σ v (.agg [.str a,.str b,.str c]))
 obtain ⟨x,y,z,rfl⟩: ∃x y z,us= [x,y,z]:=by
  have:=g.1;rcases us with _|⟨x,_|⟨y,_|⟨z,_|⟨u,l⟩⟩⟩⟩<;>simp at this
  exact ⟨x,y,z,rfl⟩
 cases g.head;cases g.tail.head;cases g.tail.tail.head;refine (It a b c j hb p w hg).mono ?_;rintro e w' ⟨rfl,i⟩;exact ⟨σ,_,rfl,Ext.refl _ _,r.on i,i,.bool _⟩
theorem FB {a b:V}:(!decide (a.kind=b.kind)||(a.b !=b.b)|| !decide (a.n=b.n)|| !decide (a.s=b.s)|| !decide (((aL a.l).length:Int)=(aL b.l).length)|| !decide (((am a.m).length:Int)=(am b.m).length))=true→a≠b:=by
 rintro h rfl;simp at h
theorem Iu {a b:V} (h:(!decide (a.kind=b.kind)||(a.b !=b.b)|| !decide (a.n=b.n)|| !decide (a.s=b.s)|| !decide (((aL a.l).length:Int)=(aL b.l).length)|| !decide (((am a.m).length:Int)=(am b.m).length))=false):
  a.kind=b.kind∧a.b=b.b∧a.n=b.n∧a.s=b.s∧a.l.length=b.l.length∧a.m.length=b.m.length:=by
 simp only [aB,ak,Bool.or_eq_false_iff,Bool.not_eq_false',gB0,bne_eq_false_iff_eq] at h;obtain ⟨⟨⟨⟨⟨g,i⟩,j⟩,p⟩,r⟩,C⟩:=h;exact ⟨g,i,j,p,by omega,by omega⟩
theorem Bh {a b:V} (h:a≠b):AV.bool false= .bool (a.sameB b):=by rw [V.sameB_false.2 h]
theorem zu {α:Type} {l m:List α} {k:Nat} {x y:α} (h:l.take k=m.take k) (g:l[k]? =some x) (hy:m[k]? =some y) (e:x=y):l.take (k+1)=m.take (k+1):=by rw [e9 g,e9 hy,h,e]
set_option maxRecDepth 4000 in
theorem Iv (n:Nat): ∀a b:V,a.size≤n→a.size≤2000000000000→AC Tryz.prog 14 [(vA (a)),(vA (b))] (.bool (a.sameB b)):=by
 induction n with
 |zero=>intro v _ h;have:=v.size_pos;omega
 |succ n ih=>
  intro a b hn hsz;have C:=a.size_eq;have I:=br a.l;have J:=aZ a.m;refine kE Tryz.func14 tv tw fun E hE=> ?_
  refine kW ?_;refine kQ [] ?_;refine kC (fun hb=> ?_) fun hb=> ?_
  ·refine kW ?_
   refine aR ⟨_,rfl,?_⟩;exact Bh (FB hb)
  obtain ⟨P,R,T,U,e5,e6⟩:=Iu hb;clear hb;refine kW ?_;refine aJ (fun k:Nat=>(ar [(2,.ptr 2 0),(3,.ptr 3 0),(5,.int .i64 k)],⟨ag [(2,(vC (a)),false),(3,(vC (b)),false)],fun _=>0⟩)) (fun k=>k≤a.l.length∧a.l.take k=b.l.take k) (fun k=>a.l.length-k) 0 ⟨by omega,rfl⟩ (wO ⟨kI,kI,kI,trivial⟩ ⟨kJ,kJ,trivial⟩ rfl rfl) fun k ⟨hk,hr⟩=> ?_
  refine kW ?_;refine kC (fun hb=> ?_) fun hb=> ?_
  ·have g:k<a.l.length:=by simpa [aB] using hb
   obtain ⟨x,hg⟩: ∃x,a.l[k]? =some x:=⟨_,gA1 g⟩
   obtain ⟨y,hy⟩: ∃x,b.l[k]? =some x:=⟨_,gA1 (by omega)⟩
   have hx:=ed hg;have j:=cn a.l (k+1);refine kW ?_;refine kP [.c (vC (x)),.c (vC (y)),.v (.bool (x.sameB y))] ?_ ?_
   ·((repeat' apply aI)<;>first|exact kD|(intro r;refine ⟨?_,kG⟩;(repeat' apply aI)<;>first|exact kD|skip)|skip)
    ·exact dh hg
    ·exact dh hy
    ·exact ih x y (by omega) (by omega)
   refine kC (fun hb=> ?_) fun hb=> ?_
   ·have i:x≠y:=V.sameB_false.1 (by simpa using hb)
    refine kW ?_;refine aR ⟨_,rfl,?_⟩;exact Bh (by rintro rfl;rw [hg] at hy;exact i (Option.some.inj hy))
   ·have i:x=y:=V.sameB_true.1 (by simpa using hb)
    refine kW ?_;exact AK.lp ⟨k+1,⟨by omega,zu hr hg hy i⟩,wO ⟨kI,kI,kU,trivial⟩ ⟨kJ,kJ,trivial⟩ rfl rfl,by omega⟩
  ·have g:k=a.l.length:=by have:a.l.length≤k:=by simpa [aB] using hb
                           omega
   subst g;have e7:a.l=b.l:=by rw [List.take_length,e5,List.take_length] at hr;exact hr
   clear hr;refine AK.exit rfl ?_;refine kW ?_;refine aJ (fun k:Nat=>(ar [(2,.ptr 2 0),(3,.ptr 3 0),(6,.int .i64 k)],⟨ag [(2,(vC (a)),false),(3,(vC (b)),false)],fun _=>0⟩)) (fun k=>k≤a.m.length∧a.m.take k=b.m.take k) (fun k=>a.m.length-k) 0 ⟨by omega,rfl⟩ (wO ⟨kI,kI,kI,trivial⟩ ⟨kJ,kJ,trivial⟩ rfl rfl) fun k ⟨hk,hr⟩=> ?_
   refine kW ?_;refine kC (fun hb=> ?_) fun hb=> ?_
   ·have g:k<a.m.length:=by simpa [ak] using hb
    obtain ⟨⟨p,x⟩,hg⟩: ∃x,a.m[k]? =some x:=⟨_,gA1 g⟩
    obtain ⟨⟨q,y⟩,hy⟩: ∃x,b.m[k]? =some x:=⟨_,gA1 (by omega)⟩
    have hx:=ee hg;have j:=bV a.m (k+1);refine kW ?_;refine kP [.c (.str p::(vC (x))),.c (.str q::(vC (y))),.c (.str p::(vC (x))),.c (.str q::(vC (y))),.v (.bool (x.sameB y))] ?_ ?_
    ·((repeat' apply aI)<;>first|exact kD|(intro r;refine ⟨?_,kG⟩;(repeat' apply aI)<;>first|exact kD|skip)|skip)
     ·exact aV hg
     ·exact aV hy
     ·exact aV hg
     ·exact aV hy
     ·exact ih x y (by omega) (by omega)
    refine kC (fun hb=> ?_) fun hb=> ?_
    ·have i: ¬(p=q∧x=y):=by
      rintro ⟨rfl,rfl⟩;rw [V.sameB_true.2 rfl] at hb;simp at hb
     refine kW ?_;refine aR ⟨_,rfl,?_⟩;exact Bh (by rintro rfl;rw [hg] at hy;cases hy;exact i ⟨rfl,rfl⟩)
    ·have i:p=q∧x=y:=by
      simp only [Bool.or_eq_false_iff,Bool.not_eq_false',gB0] at hb;exact ⟨hb.1,V.sameB_true.1 hb.2⟩
     refine kW ?_;exact AK.lp ⟨k+1,⟨by omega,zu hr hg hy (by rw [i.1,i.2])⟩,wO ⟨kI,kI,kU,trivial⟩ ⟨kJ,kJ,trivial⟩ rfl rfl,by omega⟩
   ·have g:k=a.m.length:=by have:a.m.length≤k:=by simpa [ak] using hb
                            omega
    subst g;have e8:a.m=b.m:=by rw [List.take_length,e6,List.take_length] at hr;exact hr
    refine AK.exit rfl ?_;refine kW ?_;refine aR ⟨_,rfl,?_⟩;exact congrArg AV.bool (V.sameB_true.2 (V.ext_iff'.2 ⟨P,R,T,U,e7,e8⟩)).symm
end Go.Proofs.YtbgflifmanjpjaaGreatDoor
