/- Part 10. -/
import Derived.Test.YtbgflifmanjpjaaGreatDoorS9
import Derived.ProofKit
import Derived.SizedLaws
import Derived.Deep.Slices
set_option linter.unusedSimpArgs false
set_option linter.unusedVariables false
namespace Go.Proofs.YtbgflifmanjpjaaGreatDoor
section
open Go.ChangeShapes Go.WideShapes Go.ChangeAt Go.RowKit Go.Deep
section
variable {H:Type} {enc:TypeId×Value→H} {P:Program}
theorem m6 (hl:laidOutB P=true) {W C:World} (hb:Below W.heap.size W C): ∀(ts:List TypeId) (vs:List Value) (ds:List (DataW H)) (p:List MemPlace),
  (∀t∈ts,P.readableRec t=true∧t<P.types.size)→DataW.TrodAll enc P W 0 (fun _=>true) true ts vs ds p→(∀x∈p,x.block<W.heap.size)→
  DataW.TrodAll enc P C 0 (fun b=>decide (b<W.heap.size)) true ts vs ds p
 | [],vs,ds,p,_,h,_=>by
  obtain ⟨rfl,rfl,rfl⟩:=trodAll_nil h;exact rfl
 |t::ts,vs,ds,p,ht,h,g=>by
  obtain ⟨v,i,d,j,I,q,rfl,rfl,rfl,J,R⟩:=trodAll_cons h
  exact ⟨I,q,Below.trod hl (ht t (by simp)).1 (ht t (by simp)).2 J hb (fun x r=>g x (by simp [r])),
   m6 hl hb ts i j q (fun T U=>ht T (by simp [U])) R (fun x r=>g x (by simp [r])),rfl⟩
theorem GR {f:Func} {s:ChangeSpec} {tb:TypeId} (hl:laidOutB P=true) (hr:(f.params.toList.all fun t=>P.readableRec t&&decide (t<P.types.size))=true) (g:f.resultTypes= #[tb]) (R:P.underlying tb=some .bool)
  (r:s.vars= []) {W C:World} {args:Array Value} {ds gs:List (DataW H)} {before:List MemPlace} (I:DataW.Whole enc P f.params.toList s.vars false W args.toList ds gs before)
  (T:s.fn H (ds++ [])={results:= [.lit (.bool true)],args:=ds}) (hb:Below W.heap.size W C):s.post enc P f false true false false W args (.bool true) C:=by
 have i:=I;obtain ⟨p,q,hA,J,rfl,U,hnd⟩:=I;rw [r] at J;obtain ⟨rfl,rfl⟩:=trodVars_none J;have e:=T;have j: ∀x∈p,x.block<W.heap.size:=fun x hx=>i.lt x (by simp [hx])
 refine ⟨ds,[],p++ [],[],p,[],i,?_,?_,?_,hb.frame _,fun h=>by cases h⟩
 ·rw [e,g];exact trodAll_mk1 (shut_bool R _)
 ·rw [e]
  exact m6 hl hb _ _ _ _ (fun t ht=>by
   have:=List.all_eq_true.1 hr t ht;simpa using this) hA j
 ·rw [e,r];exact rfl
end
theorem GS {α:Type} {l:List α} (h:l.length=6): ∃a b c d e f,l= [a,b,c,d,e,f]:=by
 rcases l with _|⟨a,_|⟨b,_|⟨c,_|⟨d,_|⟨e,_|⟨f,_|⟨g,l⟩⟩⟩⟩⟩⟩⟩<;>simp at h
 exact ⟨a,b,c,d,e,f,rfl⟩
theorem Lv {α:Type} {l:List α} (h:l.length=7): ∃a b c d e f g,l= [a,b,c,d,e,f,g]:=by
 rcases l with _|⟨a,l⟩
 ·simp at h
 ·obtain ⟨b,c,d,e,f,g,rfl⟩:=GS (l:=l) (by simpa using h)
  exact ⟨a,b,c,d,e,f,g,rfl⟩
section
variable {H:Type} {enc:TypeId×Value→H} {P:Program}
end
end
section
set_option maxRecDepth 100000
def y5:ACode:=
 .seq (gQ [gP 1 0,⟨gO,.alloc 2 gZ⟩]) (.seq (gQ [gF 5 4 1,gL 6 5,gC 7 130 [.s 6],gF 8 5 1,gL 9 8,gC 10 131 [.s 9],gF 11 4 1,gT 1 11 7,gF 12 5 1,gT 1 12 10]) (.seq (.seq (gQ [gF 13 4 1,gL 14 13,gH 15 false 14,gJ 16 0]) (.block 0 (.loop (.seq (gQ [gV 17 .lss 16 15]) (.seq (.cond (.s 17) .skip (.exit 0)) (.seq (.block 1 (.seq (gQ [gM 18 16,gM 3 18]) (.reg [gF 19 4 1,gL 20 19,gM 21 3,gF 22 4 1,gL 23 22,gM 24 3,gE 25 6 23 24,gA 26 6 25,gC 27 78 [.s 26],gE 28 6 20 21,gT 6 28 27]))) (.reg [gU 29 .add 16 1,gM 16 29]))))))) (.seq (.seq (gQ [gF 30 5 1,gL 31 30,gH 32 false 31,gJ 33 0]) (.block 2 (.loop (.seq (gQ [gV 34 .lss 33 32]) (.seq (.cond (.s 34) .skip (.exit 2)) (.seq (.block 3 (.seq (gQ [gM 35 33,gM 4 35]) (.reg [gF 36 5 1,gL 37 36,gM 38 4,gF 39 5 1,gL 40 39,gM 41 4,gE 42 7 40 41,gF 43 1 42,gA 44 6 43,gC 45 78 [.s 44],gE 46 7 37 38,gF 47 1 46,gT 6 47 45]))) (.reg [gU 48 .add 33 1,gM 33 48]))))))) (.seq (gQ [gA 49 6 1,gT 6 2 49]) .ret))))
def y6:AFn:=⟨1,50,y5,[.cell 2 6 true]⟩
theorem sw:ax Tryz.prog [79,76] Tryz.f78=some y6:=kk
theorem sy:aa Tryz.prog 78=true:=kk
def C0:ACode:=
 .seq (gQ [⟨gO,.alloc 2 gZ⟩]) (.seq (gQ [⟨gO,.build 8 gZ [(0,1,gI 5)]⟩,⟨gO,.alloc 3 gZ⟩,gT 6 3 8]) (.seq (.seq (gQ [gM 9 0,gH 10 false 9,gJ 11 0]) (.block 0 (.loop (.seq (gQ [gV 12 .lss 11 10]) (.seq (.cond (.s 12) .skip (.exit 0)) (.seq (.block 1 (.seq (gQ [gE 13 7 9 11,gA 14 7 13,⟨gO,.alloc 5 [.str ⟨#[]⟩,.int .i64 0,.bool false,.int .i64 0,.str ⟨#[]⟩,.lst .nil 6 [],.lst .nil 7 []]⟩,gT 7 5 14]) (.seq (gQ [gF 16 5 3,gL 17 16,gF 18 0 5,gL 19 18,⟨gO,.callr (some 20) (.k (.fn 76 [])) [.s 17,.s 19,.k (.fn 77 [])]⟩,gM 15 20,gX 21 0 15,gX 22 1 15,gM 6 21,gM 7 22]) (.seq (.seq (gQ [gM 23 7]) (.cond (.s 23) (.seq (gQ [gF 24 5 3,gL 25 24,gM 26 6,gF 27 1 5,gA 28 6 27,gC 29 78 [.s 28],gE 30 7 25 26,gF 31 1 30,gT 6 31 29]) (.exit 1)) .skip)) (.reg [gF 32 5 3,gL 33 32,gM 34 6,gF 35 0 5,gL 36 35,gF 37 1 5,gA 38 6 37,gC 39 78 [.s 38],⟨gO,.build 40 [.str ⟨#[]⟩,.int .i64 0,.bool false,.int .i64 0,.str ⟨#[]⟩,.lst .nil 6 [],.lst .nil 7 []] [(0,1,.s 36),(1,6,.s 39)]⟩,⟨gO,.bsl 41 1 7 [.str ⟨#[]⟩,.int .i64 0,.bool false,.int .i64 0,.str ⟨#[]⟩,.lst .nil 6 [],.lst .nil 7 []] [(0,7,.s 40)]⟩,⟨gO,.callr (some 42) (.k (.fn 79 [])) [.s 33,.s 34,.s 41]⟩,gF 43 5 3,gT 1 43 42]))))) (.reg [gU 44 .add 11 1,gM 11 44]))))))) (.seq (gQ [gA 45 6 3,gT 6 2 45]) .ret)))
def C1:AFn:=⟨1,46,C0,[.cell 2 6 true]⟩
theorem wx:ax Tryz.prog [79,76] Tryz.f36=some C1:=kk
theorem wy:aa Tryz.prog 36=true:=kk
theorem ea:aa Tryz.prog 130=true:=kk
theorem cy:aa Tryz.prog 131=true:=kk
end
section
open Go.RowKit
mutual
def dP:V→List AV
 | .mk k b n s l m=> [.int .i64 k,.bool b,.int .i64 n,.str s,.lst .any 6 (aF l),.lst .any 7 (ak m)]
def aF:List V→List (List AV)
 | []=> []
 |x::l=>dP x::aF l
def ak:List (ByteArray×V)→List (List AV)
 | []=> []
 |(y,x)::m=>(.str y::dP x)::ak m
end
abbrev vC (v:V):List AV:= [.int .i64 v.kind,.bool v.b,.int .i64 v.n,.str v.s,.lst .any 6 (aF v.l),.lst .any 7 (ak v.m)]
abbrev vA (v:V):AV:= .agg (vC v)
theorem bM (v:V):dP v= [.int .i64 v.kind,.bool v.b,.int .i64 v.n,.str v.s,.lst .any 6 (aF v.l),.lst .any 7 (ak v.m)]:=by cases v;rfl
theorem ay (l:List V):(aF l).length=l.length:=by
 induction l with
 |nil=>rfl
 |cons x l ih=>simp [aF,ih]
theorem aj (l:List (ByteArray×V)):(ak l).length=l.length:=by
 induction l with
 |nil=>rfl
 |cons x l ih=>obtain ⟨y,x⟩:=x;simp [ak,ih]
theorem cn: ∀{l:List V} {k:Nat} {x:V},l[k]? =some x→(aF l)[k]? =some [.int .i64 x.kind,.bool x.b,.int .i64 x.n,.str x.s,.lst .any 6 (aF x.l),.lst .any 7 (ak x.m)]
 |y::l,0,x,h=>by simp at h;subst h;rw [←bM];rfl
 |y::l,k+1,x,h=>by simpa [aF] using cn (l:=l) (k:=k) (by simpa using h)
theorem aQ: ∀{l:List (ByteArray×V)} {k:Nat} {y:ByteArray} {x:V},l[k]? =some (y,x)→(ak l)[k]? =some [.str y,.int .i64 x.kind,.bool x.b,.int .i64 x.n,.str x.s,.lst .any 6 (aF x.l),.lst .any 7 (ak x.m)]
 |(z,y)::l,0,w,x,h=>by simp at h;obtain ⟨rfl,rfl⟩:=h;rw [ak,bM];rfl
 |(z,y)::l,k+1,w,x,h=>by simpa [ak] using aQ (l:=l) (k:=k) (by simpa using h)
theorem aG {n:Int} (g: -9223372036854775808≤n) (i:n≤9223372036854775807):IntKind.i64.wrap n=n:=by
 have:=IntWalk.i64_in n (by omega);exact this
theorem cI {σ:Sg} {v:Value} {t:Tag} {esz:Nat} {l:List (List AV)} (h:Rel1 σ v (.lst t esz l)): ∃(A:Option Addr) (cap b o:Nat) (news:List Value),v= .slice A l.length cap∧l.length≤cap∧(0<l.length→A=some ⟨b,o,none⟩)∧(∀c∈l,c.length=esz)∧
  news.length=l.length*esz∧RelL σ news l.flatten∧ ∀(q:Nat) u,news[q]? =some u→σ b (o+q)=some u:=by
 cases h with
 |lst t esz l A n cap b o f hn hlen hA hsz hσ hr ht=>
  subst hn
  have g: ∀c∈l,c.length=esz:=fun c p=>by
   obtain ⟨i,hi⟩:=List.getElem?_of_mem p;exact hsz i c hi
  have I: ∀l:List (List AV),(∀c∈l,c.length=esz)→l.flatten.length=l.length*esz:=by
   intro l
   induction l with
   |nil=>intro _;simp
   |cons x l ih=>intro r;rw [List.flatten_cons,gA5,gA3,ih fun c p=>r c (by simp [p]),r x (by simp),gC3];omega
  have J: ∀(l:List (List AV)) (i j:Nat) (c:List AV) (a:AV),(∀c∈l,c.length=esz)→l[i]? =some c→c[j]? =some a→l.flatten[i*esz+j]? =some a:=by
   intro l
   induction l with
   |nil=>intro i j c a _ h;simp at h
   |cons y l ih=>
    intro i j c a r p C;have hy:=r y (by simp);rw [List.flatten_cons];cases i with
    |zero=>
     simp at p;subst p;rw [Nat.zero_mul,Nat.zero_add,gC1 (gA0 C).1];exact C
    |succ i=>
     rw [gC2 (by rw [hy,gC3];omega),hy,show (i+1)*esz+j-esz=i*esz+j by rw [gC3];omega];exact ih i j c a (fun c p=>r c (by simp [p])) (by simpa using p) C
  refine ⟨A,cap,b,o,cOz l.length esz f,rfl,hlen,hA,g,ck _ _ _,⟨by rw [ck,I l g],fun q v a P C=> ?_⟩,fun q u hu=>iq hσ q u hu⟩;have T:q<l.length*esz:=by have:=(gA0 P).1;rwa [ck] at this
  have he:0<esz:=by
   rcases Nat.eq_zero_or_pos esz with h|h
   ·subst h;omega
   ·exact h
  rw [iX f T] at P;cases P;have h1:q / esz<l.length:=Nat.div_lt_of_lt_mul (by rw [Nat.mul_comm];exact T);have R:l[q / esz]? =some l[q / esz]:=gA1 h1;have h3:q%esz<(l[q / esz]).length:=by rw [hsz _ _ R];exact Nat.mod_lt _ he
  have U:=gA1 h3;have h5:=J l _ _ _ _ g R U
  have e:q / esz*esz+q%esz=q:=by
   have:=Nat.div_add_mod q esz;rw [Nat.mul_comm] at this;exact this
  rw [e,C] at h5;cases h5;exact hr _ _ _ _ R U
end
section
set_option maxRecDepth 100000
def C2:ACode:=
 .seq (gQ [⟨gO,.alloc 2 gZ⟩]) (.seq (gQ [gM 3 0,⟨gO,.build 4 gZ [(0,1,gI 2),(2,1,.s 3)]⟩,gT 6 2 4]) .ret)
def C3:AFn:=⟨1,5,C2,[.cell 2 6 true]⟩
theorem wz:ax Tryz.prog [] Tryz.f37=some C3:=kk
theorem wA:aa Tryz.prog 37=true:=kk
def C4:ACode:=
 .seq (gQ [gP 2 0,⟨gO,.alloc 4 gZ⟩,⟨gO,.mov 5 (.k (.bool false))⟩]) (.seq (.seq (gQ [gF 8 0 2,gL 9 8,gU 10 .neq 9 5]) (.cond (.s 10) (.seq (gQ [⟨gO,.build 11 gZ []⟩,gT 6 4 11,⟨gO,.mov 5 (.k (.bool false))⟩]) .ret) .skip)) (.seq (gQ [gF 13 5 2,gL 14 13,gM 15 1,⟨gO,.call (some 16) (.k (.fn 76 [])) [.s 14,.s 15,.k (.fn 77 [])]⟩,gM 12 16,gX 17 0 12,gX 18 1 12,gM 6 17,gM 7 18]) (.seq (.seq (gQ [gM 19 7,⟨gO,.un 20 .not (.s 19)⟩]) (.cond (.s 20) (.seq (gQ [⟨gO,.build 21 gZ []⟩,gT 6 4 21,⟨gO,.mov 5 (.k (.bool false))⟩]) .ret) .skip)) (.seq (gQ [gF 22 5 2,gL 23 22,gM 24 6,gE 25 7 23 24,gF 26 1 25,gA 27 6 26,gC 28 78 [.s 27],gT 6 4 28,⟨gO,.mov 5 (.k (.bool true))⟩]) .ret))))
def C5:AFn:=⟨2,29,C4,[.cell 4 6 true,.tmp 5]⟩
theorem m7:ax Tryz.prog [] Tryz.f38=some C5:=kk
theorem m8:aa Tryz.prog 38=true:=kk
def y7:ACode:=
 .seq (gQ [gP 2 0,gJ 4 0]) (.seq (gQ [gF 5 0 2,gL 6 5,gM 7 1,gC 8 129 [.s 6,.s 7],gM 4 8]) .ret)
def y8:AFn:=⟨2,9,y7,[.tmp 4]⟩
theorem sA:ax Tryz.prog [] Tryz.f77=some y8:=kk
theorem sB:aa Tryz.prog 77=true:=kk
def ej:ACode:=
 .seq (gQ [gJ 6 0,⟨gO,.mov 7 (.k (.bool false))⟩]) (.seq (gQ [gM 12 0,gH 13 false 12,gM 8 13]) (.seq (gQ [gM 14 8,gJ 9 0,gM 10 14]) (.seq (.block 0 (.loop (.seq (.seq (gQ [gM 15 9,gM 16 10,gV 17 .lss 15 16]) (.cond (.s 17) .skip (.exit 0))) (.block 1 (.seq (gQ [gM 18 9,gM 19 10,gV 20 .add 18 19,⟨gO,.conv 21 .u64 (.s 20)⟩,⟨gO,gB 22 .shr (.s 21) (.k (.int .u64 1))⟩,⟨gO,.conv 23 .i64 (.s 22)⟩,gM 11 23]) (.seq (gQ [gM 24 2,gM 25 0,gM 26 11,gE 27 7 25 26,gA 28 7 27,gM 29 1,⟨gO,.call (some 30) (.s 24) [.s 28,.s 29]⟩,gU 31 .lss 30 0]) (.cond (.s 31) (.reg [gM 32 11,gU 33 .add 32 1,gM 9 33]) (.reg [gM 34 11,gM 10 34])))))))) (.seq (gQ [gM 35 9,gM 36 9,gM 37 8,gV 38 .lss 36 37,gM 39 38,gN 39 true 40 2,gN 39 true 41 0,gN 39 true 42 9,⟨some (39,true),.idx 43 7 (.s 41) (.s 42)⟩,⟨some (39,true),.ld 44 7 true (.s 43)⟩,gN 39 true 45 1,⟨some (39,true),.call (some 46) (.s 40) [.s 44,.s 45]⟩,⟨some (39,true),.bin 47 .eql false (.s 46) (gI 0)⟩,⟨gO,.pick 48 (.s 39) (.s 47) (.k (.bool false))⟩,gM 6 35,gM 7 48]) .ret))))
def ek:AFn:=⟨3,49,ej,[.tmp 6,.tmp 7]⟩
theorem dD:ax Tryz.prog [] Tryz.f76=some ek:=kk
theorem dE:aa Tryz.prog 76=true:=kk
def oV:ACode:=
 .seq (gQ [gJ 4 0]) (.seq (gQ [gM 5 0,gM 6 1,gC 7 185 [.s 5,.s 6],gM 4 7]) .ret)
def oW:AFn:=⟨2,8,oV,[.tmp 4]⟩
theorem lJ:ax Tryz.prog [] Tryz.f129=some oW:=kk
theorem lK:aa Tryz.prog 129=true:=kk
end
section
open Go.RowKit
def Kh:Option V→AV
 |none=> .tup [.agg (dP V.null),.bool false]
 |some x=> .tup [(vA (x)),.bool true]
def KR:AV:= .tup [.agg [.int .i64 0,.bool false,.int .i64 0,.str ⟨#[]⟩,.lst .any 6 [],.lst .any 7 []],.bool false]
theorem uK {v x:V} {key:ByteArray} (h:bf key v.m=some x):x.size<v.size:=V.mem_size (jG h)
theorem fw0:Tryz.prog.follows .mixedOrders=true:=kk
theorem kW {p q:Prop} (h:q) (f:q→p:=by intro g;(repeat (first|apply kS|apply kB|apply kL|apply kN|refine kA fw0 ?_));exact g):p:=f h
theorem kQ {P:Program} {E:Env} {Q:Exit→Fr→St→Prop} {k:List AItem} {fr fr' :Fr} {st st' :St} (rs:List RS) {l:List GI} {g:List RS} {p:Prop} (h:AK P E Q k fr' st') (i:iU P l rs fr st=some (g,fr',st',p):=by rfl)
  (j:p:=by (repeat' apply aI)<;>first|exact kD|(intro r;refine ⟨?_,kG⟩;(repeat' apply aI)<;>exact kD)) (C:P.follows .mixedOrders=true:=by exact fw0):AK P E Q (.c (.reg l)::k) fr st:=kR C rs i j h
theorem kP {P:Program} {E:Env} {Q:Exit→Fr→St→Prop} {k:List AItem} {fr fr' :Fr} {st st' :St} (rs:List RS) {l:List GI} {g:List RS} {p:Prop} (i:p) (h:AK P E Q k fr' st') (j:iU P l rs fr st=some (g,fr',st',p):=by rfl) (r:P.follows .mixedOrders=true:=by exact fw0):AK P E Q (.c (.reg l)::k) fr st:=kR r rs j i h
theorem kE {P:Program} {mu:List Nat} {f:FuncId} {fn:Func} {g:AFn} {args:List AV} {r:AV} (p:P.funcs[f]? =some fn) (i:ax P mu fn=some g) (j:aa P f=true)
  (h: ∀E:Env,E.n=g.n→AK P E (RQ g.res r) [.c g.body] (ei 0 args) ⟨fun _=>none,fun _=>0⟩) (hl:Nat.ble args.length g.n=true:=by rfl):AC P f args r:=AC.enter p i j hl h
theorem kC {P:Program} {E:Env} {Q:Exit→Fr→St→Prop} {k:List AItem} {fr:Fr} {st:St} {x:Opd} {t e:ACode} {b:Bool} (g:b=true→AK P E Q (.c t::k) fr st) (i:b=false→AK P E Q (.c e::k) fr st) (j:x.ev fr=some (.bool b):=by rfl):AK P E Q (.c (.cond x t e)::k) fr st:=AK.cond j g i
theorem kI {st:St} {fr:Fr} {s:Nat} {x:AV} (h:fr s=some x:=by rfl): ∃v,fr s=some v∧AVle st v x:=⟨x,h,.refl _⟩
theorem kJ {st:St} {s:Nat} {cs:List AV} {fz:Bool} (h:st.box s=some (cs,fz):=by rfl): ∃ds,st.box s=some (ds,fz)∧leL st ds cs:=⟨cs,h,iZ _⟩
theorem kU {st:St} {fr:Fr} {s:Nat} {k:IntKind} {a b:Int} (h:fr s=some (.int k a):=by rfl) (e:a=b:=by first|omega|(rw [aG (by omega) (by omega)];omega)): ∃v,fr s=some v∧AVle st v (.int k b):=⟨_,h,.of_eq (congrArg _ e)⟩
theorem jM {s:ByteArray} {k:Nat} (h:k<s.size):s.data.getD k 0=s[k]:=by
 rw [Array.getD,dif_pos (show k<s.data.size from h)];rfl
end
end Go.Proofs.YtbgflifmanjpjaaGreatDoor
