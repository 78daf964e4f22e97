/- Part 9. -/
import Derived.Test.YtbgflifmanjpjaaGreatDoorS8
import Derived.ProofKit
import Derived.SizedLaws
import Derived.Deep.Slices
set_option linter.unusedSimpArgs false
set_option linter.unusedVariables false
namespace Go.Proofs.YtbgflifmanjpjaaGreatDoor
section
open Go.ChangeShapes Go.WideShapes Go.ChangeAt Go.RowKit Go.Deep
section
variable {H:Type} {enc:TypeId×Value→H} {P:Program}
theorem nP (hl:laidOutB P=true) {W C:World} (hb:Below W.heap.size W C): ∀(ts:List TypeId) (vs:List Value) (ds:List (DataW H)) (p:List MemPlace),
  (∀t∈ts,P.readableRec t=true∧t<P.types.size)→DataW.TrodAll enc P W 0 (fun _=>true) true ts vs ds p→(∀x∈p,x.block<W.heap.size)→
  DataW.TrodAll enc P C 0 (fun b=>decide (b<W.heap.size)) true ts vs ds p
 | [],vs,ds,p,_,h,_=>by
  obtain ⟨rfl,rfl,rfl⟩:=trodAll_nil h;exact rfl
 |t::ts,vs,ds,p,ht,h,g=>by
  obtain ⟨v,i,d,j,I,q,rfl,rfl,rfl,J,R⟩:=trodAll_cons h
  exact ⟨I,q,Below.trod hl (ht t (by simp)).1 (ht t (by simp)).2 J hb (fun x r=>g x (by simp [r])),
   nP hl hb ts i j q (fun T U=>ht T (by simp [U])) R (fun x r=>g x (by simp [r])),rfl⟩
theorem Jg {f:Func} {s:ChangeSpec} {tb:TypeId} (hl:laidOutB P=true) (hr:(f.params.toList.all fun t=>P.readableRec t&&decide (t<P.types.size))=true) (g:f.resultTypes= #[tb]) (R:P.underlying tb=some .bool)
  (r:s.vars= []) {W C:World} {args:Array Value} {ds gs:List (DataW H)} {before:List MemPlace} (I:DataW.Whole enc P f.params.toList s.vars false W args.toList ds gs before)
  (T:s.fn H (ds++ [])={results:= [.lit (.bool true)],args:=ds}) (hb:Below W.heap.size W C):s.post enc P f false true false false W args (.bool true) C:=by
 have i:=I;obtain ⟨p,q,hA,J,rfl,U,hnd⟩:=I;rw [r] at J;obtain ⟨rfl,rfl⟩:=trodVars_none J;have e:=T;have j: ∀x∈p,x.block<W.heap.size:=fun x hx=>i.lt x (by simp [hx])
 refine ⟨ds,[],p++ [],[],p,[],i,?_,?_,?_,hb.frame _,fun h=>by cases h⟩
 ·rw [e,g];exact trodAll_mk1 (shut_bool R _)
 ·rw [e]
  exact nP hl hb _ _ _ _ (fun t ht=>by
   have:=List.all_eq_true.1 hr t ht;simpa using this) hA j
 ·rw [e,r];exact rfl
end
section
variable {H:Type} {enc:TypeId×Value→H} {P:Program}
end
end
section
set_option maxRecDepth 100000
set_option maxHeartbeats 20000000
def mD:List Nat:= [79,76]
noncomputable def zY:ACode:=bK Tryz.prog mD Tryz.f78
noncomputable def zZ:AFn:=⟨1,50,zY,[.cell 2 6 true]⟩
theorem tk:aq Tryz.prog mD Tryz.f78=some zZ:=kk
theorem tm:ab Tryz.prog 78=true:=kk
noncomputable def Ee:ACode:=bK Tryz.prog mD Tryz.f36
noncomputable def Ef:AFn:=⟨1,46,Ee,[.cell 2 6 true]⟩
theorem xI:aq Tryz.prog mD Tryz.f36=some Ef:=kk
theorem xJ:ab Tryz.prog 36=true:=kk
theorem eo:ab Tryz.prog 130=true:=kk
theorem cJ:ab Tryz.prog 131=true:=kk
end
section
open Go.RowKit
mutual
def oA:V→List AV
 | .mk k b n s l m=> [.int .i64 k,.bool b,.int .i64 n,.str s,.lst .any 6 (aL l),.lst .any 7 (am m)]
def aL:List V→List (List AV)
 | []=> []
 |x::l=>oA x::aL l
def am:List (ByteArray×V)→List (List AV)
 | []=> []
 |(y,x)::m=>(.str y::oA x)::am m
end
abbrev vC (v:V):List AV:= [.int .i64 v.kind,.bool v.b,.int .i64 v.n,.str v.s,.lst .any 6 (aL v.l),.lst .any 7 (am v.m)]
abbrev vA (v:V):AV:= .agg (vC v)
theorem b9 (v:V):oA v= [.int .i64 v.kind,.bool v.b,.int .i64 v.n,.str v.s,.lst .any 6 (aL v.l),.lst .any 7 (am v.m)]:=by cases v;rfl
theorem aB (l:List V):(aL l).length=l.length:=by
 induction l with
 |nil=>rfl
 |cons x l ih=>simp [aL,ih]
theorem ak (l:List (ByteArray×V)):(am l).length=l.length:=by
 induction l with
 |nil=>rfl
 |cons x l ih=>obtain ⟨y,x⟩:=x;simp [am,ih]
theorem dh: ∀{l:List V} {k:Nat} {x:V},l[k]? =some x→(aL l)[k]? =some [.int .i64 x.kind,.bool x.b,.int .i64 x.n,.str x.s,.lst .any 6 (aL x.l),.lst .any 7 (am x.m)]
 |y::l,0,x,h=>by simp at h;subst h;rw [←b9];rfl
 |y::l,k+1,x,h=>by simpa [aL] using dh (l:=l) (k:=k) (by simpa using h)
theorem aV: ∀{l:List (ByteArray×V)} {k:Nat} {y:ByteArray} {x:V},l[k]? =some (y,x)→(am l)[k]? =some [.str y,.int .i64 x.kind,.bool x.b,.int .i64 x.n,.str x.s,.lst .any 6 (aL x.l),.lst .any 7 (am x.m)]
 |(z,y)::l,0,w,x,h=>by simp at h;obtain ⟨rfl,rfl⟩:=h;rw [am,b9];rfl
 |(z,y)::l,k+1,w,x,h=>by simpa [am] using aV (l:=l) (k:=k) (by simpa using h)
theorem aD {n:Int} (g: -9223372036854775808≤n) (i:n≤9223372036854775807):IntKind.i64.wrap n=n:=by
 have:=IntWalk.i64_in n (by omega);exact this
theorem cd {σ:Sg} {v:Value} {t:Tag} {esz:Nat} {l:List (List AV)} (h:Rel1 σ v (.lst t esz l)): ∃(A:Option Addr) (cap b o:Nat) (news:List Value),v= .slice A l.length cap∧l.length≤cap∧(0<l.length→A=some ⟨b,o,none⟩)∧(∀c∈l,c.length=esz)∧
  news.length=l.length*esz∧RelL σ news l.flatten∧ ∀(q:Nat) u,news[q]? =some u→σ b (o+q)=some u:=by
 cases h with
 |lst t esz l A n cap b o f hn hlen hA hsz hσ hr ht=>
  subst hn
  have g: ∀c∈l,c.length=esz:=fun c p=>by
   obtain ⟨i,hi⟩:=List.getElem?_of_mem p;exact hsz i c hi
  have I: ∀l:List (List AV),(∀c∈l,c.length=esz)→l.flatten.length=l.length*esz:=by
   intro l
   induction l with
   |nil=>intro _;simp
   |cons x l ih=>intro r;rw [List.flatten_cons,gA5,gA3,ih fun c p=>r c (by simp [p]),r x (by simp),gC3];omega
  have J: ∀(l:List (List AV)) (i j:Nat) (c:List AV) (a:AV),(∀c∈l,c.length=esz)→l[i]? =some c→c[j]? =some a→l.flatten[i*esz+j]? =some a:=by
   intro l
   induction l with
   |nil=>intro i j c a _ h;simp at h
   |cons y l ih=>
    intro i j c a r p C;have hy:=r y (by simp);rw [List.flatten_cons];cases i with
    |zero=>
     simp at p;subst p;rw [Nat.zero_mul,Nat.zero_add,gC1 (gA0 C).1];exact C
    |succ i=>
     rw [gC2 (by rw [hy,gC3];omega),hy,show (i+1)*esz+j-esz=i*esz+j by rw [gC3];omega];exact ih i j c a (fun c p=>r c (by simp [p])) (by simpa using p) C
  refine ⟨A,cap,b,o,c8 l.length esz f,rfl,hlen,hA,g,cx _ _ _,⟨by rw [cx,I l g],fun q v a P C=> ?_⟩,fun q u hu=>il hσ q u hu⟩;have T:q<l.length*esz:=by have:=(gA0 P).1;rwa [cx] at this
  have he:0<esz:=by
   rcases Nat.eq_zero_or_pos esz with h|h
   ·subst h;omega
   ·exact h
  rw [iX f T] at P;cases P;have h1:q / esz<l.length:=Nat.div_lt_of_lt_mul (by rw [Nat.mul_comm];exact T);have R:l[q / esz]? =some l[q / esz]:=gA1 h1;have h3:q%esz<(l[q / esz]).length:=by rw [hsz _ _ R];exact Nat.mod_lt _ he
  have U:=gA1 h3;have h5:=J l _ _ _ _ g R U
  have e:q / esz*esz+q%esz=q:=by
   have:=Nat.div_add_mod q esz;rw [Nat.mul_comm] at this;exact this
  rw [e,C] at h5;cases h5;exact hr _ _ _ _ R U
end
section
set_option maxRecDepth 100000
set_option maxHeartbeats 20000000
def cS:List Nat:= []
noncomputable def Eg:ACode:=bK Tryz.prog cS Tryz.f37
noncomputable def Eh:AFn:=⟨1,5,Eg,[.cell 2 6 true]⟩
theorem xK:aq Tryz.prog cS Tryz.f37=some Eh:=kk
theorem xL:ab Tryz.prog 37=true:=kk
noncomputable def Ei:ACode:=bK Tryz.prog cS Tryz.f38
noncomputable def Ej:AFn:=⟨2,29,Ei,[.cell 4 6 true,.tmp 5]⟩
theorem nQ:aq Tryz.prog cS Tryz.f38=some Ej:=kk
theorem nR:ab Tryz.prog 38=true:=kk
noncomputable def z6:ACode:=bK Tryz.prog cS Tryz.f77
noncomputable def z7:AFn:=⟨2,9,z6,[.tmp 4]⟩
theorem tn:aq Tryz.prog cS Tryz.f77=some z7:=kk
theorem tp:ab Tryz.prog 77=true:=kk
noncomputable def eC:ACode:=bK Tryz.prog cS Tryz.f76
noncomputable def eD:AFn:=⟨3,49,eC,[.tmp 6,.tmp 7]⟩
theorem dT:aq Tryz.prog cS Tryz.f76=some eD:=kk
theorem dU:ab Tryz.prog 76=true:=kk
noncomputable def pJ:ACode:=bK Tryz.prog cS Tryz.f129
noncomputable def pK:AFn:=⟨2,8,pJ,[.tmp 4]⟩
theorem lP:aq Tryz.prog cS Tryz.f129=some pK:=kk
theorem lQ:ab Tryz.prog 129=true:=kk
end
section
open Go.RowKit
def NG:Option V→AV
 |none=> .tup [.agg (oA V.null),.bool false]
 |some x=> .tup [(vA (x)),.bool true]
theorem vV {v x:V} {key:ByteArray} (h:aU key v.m=some x):x.size<v.size:=V.mem_size (fY h)
theorem fw0:Tryz.prog.follows .mixedOrders=true:=kk
theorem kW {p q:Prop} (h:q) (f:q→p:=by intro g;(repeat (first|apply kS|apply kB|apply kL|apply kN|refine kA fw0 ?_));exact g):p:=f h
theorem kQ {P:Program} {E:Env} {Q:Exit→Fr→St→Prop} {k:List AItem} {fr fr' :Fr} {st st' :St} (rs:List RS) {l:List GI} {g:List RS} {p:Prop} (h:AK P E Q k fr' st') (i:iS P l rs fr st=some (g,fr',st',p):=by rfl)
  (j:p:=by (repeat' apply aI)<;>first|exact kD|(intro r;refine ⟨?_,kG⟩;(repeat' apply aI)<;>exact kD)) (C:P.follows .mixedOrders=true:=by exact fw0):AK P E Q (.c (.reg l)::k) fr st:=kR C rs i j h
theorem kP {P:Program} {E:Env} {Q:Exit→Fr→St→Prop} {k:List AItem} {fr fr' :Fr} {st st' :St} (rs:List RS) {l:List GI} {g:List RS} {p:Prop} (i:p) (h:AK P E Q k fr' st') (j:iS P l rs fr st=some (g,fr',st',p):=by rfl) (r:P.follows .mixedOrders=true:=by exact fw0):AK P E Q (.c (.reg l)::k) fr st:=kR r rs j i h
theorem kE {P:Program} {mu:List Nat} {f:FuncId} {fn:Func} {g:AFn} {args:List AV} {r:AV} (p:P.funcs[f]? =some fn) (i:aq P mu fn=some g) (j:ab P f=true)
  (h: ∀E:Env,E.n=g.n→AK P E (RQ g.res r) [.c g.body] (dS 0 args) ⟨fun _=>none,fun _=>0⟩) (hl:Nat.ble args.length g.n=true:=by rfl):AC P f args r:=AC.enter p i j hl h
theorem kC {P:Program} {E:Env} {Q:Exit→Fr→St→Prop} {k:List AItem} {fr:Fr} {st:St} {x:Opd} {t e:ACode} {b:Bool} (g:b=true→AK P E Q (.c t::k) fr st) (i:b=false→AK P E Q (.c e::k) fr st) (j:x.ev fr=some (.bool b):=by rfl):AK P E Q (.c (.cond x t e)::k) fr st:=AK.cond j g i
theorem kI {st:St} {fr:Fr} {s:Nat} {x:AV} (h:fr s=some x:=by rfl): ∃v,fr s=some v∧AVle st v x:=⟨x,h,.refl _⟩
theorem kJ {st:St} {s:Nat} {cs:List AV} {fz:Bool} (h:st.box s=some (cs,fz):=by rfl): ∃ds,st.box s=some (ds,fz)∧leL st ds cs:=⟨cs,h,iY _⟩
theorem kU {st:St} {fr:Fr} {s:Nat} {k:IntKind} {a b:Int} (h:fr s=some (.int k a):=by rfl) (e:a=b:=by first|omega|(rw [aD (by omega) (by omega)];omega)): ∃v,fr s=some v∧AVle st v (.int k b):=⟨_,h,.of_eq (congrArg _ e)⟩
theorem io {s:ByteArray} {k:Nat} (h:k<s.size):s.data.getD k 0=s[k]:=by
 rw [Array.getD,dif_pos (show k<s.data.size from h)];rfl
end
end Go.Proofs.YtbgflifmanjpjaaGreatDoor
