/- Part 34. -/
import Derived.Test.YtbgflifmanjpjaaGreatDoorS33
set_option linter.unusedSimpArgs false
set_option linter.unusedVariables false
namespace Go.Proofs.YtbgflifmanjpjaaGreatDoor
open Go.RowKit Go.MapKept
open Go.ChangeMaps (setBlock)
section
variable {P:Program} {mu:List Nat} {E:Env} {G G' :Gho} {fr fr' :Fr} {st st' :St} {a a0:Act} {w w0:World} {Q:Exit→Fr→St→Prop} {k:List AItem}
def itA (r:Nat):AV:= .raw (.pointer (some ⟨r,0,none⟩))
theorem uD {σ:Sg} {v u:Value} (h:Rel1 σ v (.raw u)):v=u:=by cases h;rfl
theorem ko {c:Code} {x y:ACode} (h:ah P mu c=some (.seq x y)): ∃a b,c= .seq a b∧ah P mu a=some x∧ah P mu b=some y:=by
 cases c with
 |seq a b=>
  simp only [ah] at h;split at h
  ·rename_i j p g hy
   cases h;exact ⟨a,b,rfl,g,hy⟩
  ·cases h
 |region id i r=>simp only [ah] at h;split at h; ·(repeat' (split at h))<;>cases h
                 ·cases h
 |cond x t e=>simp only [ah] at h;split at h<;>cases h
 |block id b=>simp only [ah] at h;split at h<;>cases h
 |loop b=>simp only [ah] at h;split at h<;>cases h
 |_=>cases h
theorem pY {c:Code} {id:Nat} {x:ACode} (h:ah P mu c=some (.block id x)): ∃b,c= .block id b∧ah P mu b=some x:=by
 cases c with
 |block id' b=>
  simp only [ah] at h;split at h
  ·rename_i j g
   cases h;exact ⟨b,rfl,g⟩
  ·cases h
 |region id i p=>simp only [ah] at h;split at h; ·(repeat' (split at h))<;>cases h
                 ·cases h
 |cond x t e=>simp only [ah] at h;split at h<;>cases h
 |seq x y=>simp only [ah] at h;split at h<;>cases h
 |loop b=>simp only [ah] at h;split at h<;>cases h
 |_=>cases h
theorem sN {c:Code} {x:ACode} (h:ah P mu c=some (.loop x)): ∃b,c= .loop b∧ah P mu b=some x:=by
 cases c with
 |loop b=>
  simp only [ah] at h;split at h
  ·rename_i j g
   cases h;exact ⟨b,rfl,g⟩
  ·cases h
 |region id i p=>simp only [ah] at h;split at h; ·(repeat' (split at h))<;>cases h
                 ·cases h
 |cond x t e=>simp only [ah] at h;split at h<;>cases h
 |seq x y=>simp only [ah] at h;split at h<;>cases h
 |block id b=>simp only [ah] at h;split at h<;>cases h
 |_=>cases h
theorem gO {c:Code} {l:List GI} (h:ah P mu c=some (.reg l)) (hi:l.any GI.iter=true): ∃id g,c= .region id g false∧sh P mu g 0 g.toList=some l:=by
 cases c with
 |region id g r=>
  simp only [ah] at h;split at h
  ·rename_i I hl
   split at h
   ·rename_i i
    split at h
    ·cases h
    cases h;cases r with
    |false=>exact ⟨id,g,rfl,hl⟩
    |true=>
     exfalso;simp only [Bool.not_true,Bool.false_or,gA9] at i;have p:=i.2;unfold noIter at p;obtain ⟨x,C,j⟩:=List.any_eq_true.1 hi;have:=List.all_eq_true.1 p x C;rw [j] at this;cases this
   ·split at h<;>cases h
  ·cases h
 |cond x t e=>simp only [ah] at h;split at h<;>cases h
 |seq x y=>simp only [ah] at h;split at h<;>cases h
 |block id b=>simp only [ah] at h;split at h<;>cases h
 |loop b=>simp only [ah] at h;split at h<;>cases h
 |_=>cases h
theorem J2 {gs:Bool} {o:Oper} {t:TypeId} {d:Nat} {x:Opd} (h:aW P mu gs o=some (.rng t d x)): ∃g,o.op= .range t g∧o.dst=some d∧be P t g=some x∧ ∃k e,P.underlying t=some (.map k e):=by
 unfold aW at h
 (repeat' split at h)<;>first
  |(cases h;done)
  |(cases h;exact ⟨_,by assumption,by assumption,by assumption,_,_,by assumption⟩)
theorem J3 {gs:Bool} {o:Oper} {d:Nat} {x:Opd} (h:aW P mu gs o=some (.nxt d x)): ∃g,o.op= .next g false∧o.dst=some d∧be P 0 g=some x:=by
 unfold aW at h
 (repeat' split at h)<;>first
  |(cases h;done)
  |(cases h;exact ⟨_,by assumption,by assumption,by assumption⟩)
theorem Nc {gs:Bool} {o:Oper} {d:Nat} {x:Opd} (h:aW P mu gs o=some (.ent d x)): ∃g,o.op= .entry g∧o.dst=some d∧be P 0 g=some x:=by
 unfold aW at h
 (repeat' split at h)<;>first
  |(cases h;done)
  |(cases h;exact ⟨_,by assumption,by assumption,by assumption⟩)
theorem uE {Q:Exit→Act→World→Prop} {g:Array Oper} {C:List GI} (r:At P mu g C) (J:gE E.n C=true) {tail:List Nat} (R: ∀G a w,Conc E G fr' st' a w→wpOps P g Q tail a w):
  ∀{l:List (GI×Option RS)} {k:Nat} {fr:Fr} {st:St} {p:Prop} {G:Gho} {a:Act} {w:World},(∀j x,(l.map (·.1))[j]? =some x→C[k+j]? =some x)→k+l.length≤g.size→gD P l fr st=some (fr',st',p)→p→Conc E G fr st a w→
   wpOps P g Q (List.range' k l.length++tail) a w
 | [],k,fr,st,p,G,a,w,_,_,i,_,h=>by cases i;exact R _ _ _ h
 |(x,rs)::l,k,fr,st,p,G,a,w,hl,hlen,i,T,h=>by
  unfold gD at i;split at i
  ·rename_i f1 s1 p1 h1
   split at i
   ·rename_i f2 s2 q2 h2
    cases i;have U:C[k]? =some x:=by simpa using hl 0 x rfl
    have hk:k<g.size:=by simp at hlen;omega
    have ho:g[k]? =some g[k]:=Array.getElem?_eq_getElem hk;rw [gA3,List.range'_succ,List.cons_append];simp only [wpOps,ho]
    have hg:=MJ (Q:=Q) (K:=wpOps P g Q (List.range' (k+1) l.length++tail)) h r ho U h1 T.1 (dy J U) (fun G' a' w' hc=>uE r J R (fun j y hy=>by
     have:=hl (j+1) y (by simpa using hy);rw [←this];congr 1;omega) (by simp at hlen;omega) h2 T.2 hc)
    split at hg
    ·rename_i I;rw [if_pos I];exact .inl hg
    ·rename_i I;rw [if_neg I];exact hg
   ·cases i
  ·cases i
theorem gy {Q:Exit→Act→World→Prop} {g:Array Oper} {r:List GI} (p:At P mu g r) {j:Nat} {i:AI} (C:r[j]? =some ⟨none,i⟩) {rest:List Nat} (h: ∀gs o,aW P mu gs o=some i→o.wp P a w (wpOps P g Q rest) Q):wpOps P g Q (j::rest) a w:=by
 have J:j<g.size:=by rw [←p.1];exact (gA0 C).1
 have I:g[j]? =some g[j]:=Array.getElem?_eq_getElem J;obtain ⟨R,T,U⟩:=p.2 j _ _ I C;simp only [wpOps,I];rw [Bv (i:=i) (fr:=fun _=>none) R rfl,if_pos rfl];exact .inl (h _ _ T)
theorem js {Q:Exit→Act→World→Prop} {o:Oper} {v:Value} {w' :World} {K:Act→World→Prop} (g:(execOp a.eval o).run P w= .ok (.value v) w') {d:Nat} (i:o.dst=some d) (h:K (a.put (some d) v) w'):o.wp P a w K Q:=by
 unfold Oper.wp;rw [g,Oper.upon_value,i];exact h
def pZ:List GI→Option (List GI×TypeId×Nat×Opd)
 | []=>none
 | [⟨none,.rng t d x⟩]=>some ([],t,d,x)
 |g::l=>match pZ l with
  |some (p,r)=>some (g::p,r)
  |none=>none
theorem kp: ∀{l p:List GI} {t:TypeId} {d:Nat} {x:Opd},pZ l=some (p,t,d,x)→l=p++ [⟨none,.rng t d x⟩]
 | [],_,_,_,_,h=>by cases h
 |g::l,p,t,d,x,h=>by
  unfold pZ at h;split at h
  ·cases h
  ·rename_i e;cases e;cases h;rfl
  ·rename_i e
   cases e;split at h
   ·rename_i hl
    cases h;rw [kp hl];rfl
   ·cases h
def J4 (P:Program) (E:Env) (r:Nat) (row:MRow):Prop:= ∀G fr st a w,Conc E G fr st a w→ ∃g i,(Instr.entry (.pointer (some ⟨r,0,none⟩))).run P w= .ok (.tuple #[g,i]) w∧RelP G.σ g (ey row.1)∧RelP G.σ i (ey row.2)
theorem AK.nil (h:Q .normal fr st):AK P E Q [] fr st:=h
theorem AK.exitQ {id:Nat} (h:(KS P E Q k).2 id fr st):AK P E Q (.c (.exit id)::k) fr st:=by
 intro p mu c G r w g _ i;cases c with
 |exit id' =>
  cases g;exact wp_exit ⟨G,fr,st,i,h⟩
 |region id j C=>simp only [ah] at g;split at g; ·(repeat' (split at g))<;>cases g
                 ·cases g
 |cond x t e=>simp only [ah] at g;split at g<;>cases g
 |seq x y=>simp only [ah] at g;split at g<;>cases g
 |block id b=>simp only [ah] at g;split at g<;>cases g
 |loop b=>simp only [ah] at g;split at g<;>cases g
 |_=>cases g
theorem AK.ent {r d:Nat} {x:Opd} {post:List GI} {row:MRow} {rs R:List RS} {p:Prop} (hE:J4 P E r row) (hx:x.ev fr=some (itA r)) (hs:iS P post rs (aG fr d (.tup [ey row.1,ey row.2])) st=some (R,fr',st',p)) (hp:p) (h:AK P E Q k fr' st'):AK P E Q (.c (.reg (⟨none,.ent d x⟩::post))::k) fr st:=by
 intro hd mu c G ac w T _ U;obtain ⟨id,ops,rfl,i⟩:=gO T rfl;have g:=po i;obtain ⟨S,hS,q,hst,hpq⟩:=bI hs;have hSl:ops.size=S.length+1:=by rw [←g.1,←hS];simp
 have C:gE E.n (⟨none,.ent d x⟩::post)=true:=hd;refine wp_region ?_;rw [List.range_eq_range',hSl,List.range'_succ];refine gy g (j:=0) rfl fun gs o ho=> ?_
 obtain ⟨xo,h1,h2,h3⟩:=Nc ho;obtain ⟨kv,vv,I,r1,r2⟩:=hE G fr st ac w U
 have hv:ac.eval xo= .pointer (some ⟨r,0,none⟩):=by
  exact uD (U.ev h3 hx).1
 refine js (v:= .tuple #[kv,vv]) (w' :=w) ?_ h2 ?_
 ·unfold execOp
  rw [h1];simp only [hv,Sem.run_bind,I,Result.andThen_ok,Sem.run_pure]
 have hdn:d<E.n:=dy C (k:=0) rfl d rfl
 have hC2:=U.put (v:= .tuple #[kv,vv]) (x:= .tup [ey row.1,ey row.2]) hdn ⟨[kv,vv],rfl,rfl,fun j u y J hy=>by
  rcases j with _|_|j
  ·simp at J hy;subst J hy;exact .of r1
  ·simp at J hy;subst J hy;exact .of r2
  ·simp at J⟩
 exact mw g C (fun G' a' w' T=>⟨G',fr',st',T,h⟩) (l:=S) (k:=1) (fun j=>by rw [hS,Nat.add_comm,List.getElem?_cons_succ]) (by omega) hst (hpq hp) hC2
theorem gz {w:World} {r b:Nat} {o:Obj} (h:b≠r):(setBlock w r o).heap[b]? =w.heap[b]? :=by
 show (w.heap.setIfInBounds r o)[b]? =_;rw [Array.getElem?_setIfInBounds_ne (fun e=>h e.symm)]
theorem J5 {w:World} {r:Nat} {o g:Obj} (h:w.heap[r]? =some g):(setBlock w r o).heap[r]? =some o:=by
 show (w.heap.setIfInBounds r o)[r]? =_;rw [Array.getElem?_setIfInBounds_self_of_lt (gC0 h).1]
theorem HeapAt.noIter {g id:Nat} {t:TypeId} {vs:Array Value} (h:HeapAt w g id t vs) {r:Nat} {m:Option Nat} {s:Nat} {p:Array Nat} {c:Nat} (hr:w.heap[r]? =some (.mapIter m s p c)):g≠r:=by
 rintro rfl;obtain ⟨o,j,i⟩:=h;rw [hr] at j;cases j;unfold nI at i;split at i
 ·obtain ⟨i,_⟩:=i;cases i
 ·obtain ⟨_,_,i,_⟩:=i;cases i
theorem Conc.setIter (h:Conc E G fr st a w) {r:Nat} {m:Option Nat} {s:Nat} {sn:Array Nat} {c:Nat} (hr:w.heap[r]? =some (.mapIter m s sn c)) (ho:E.own r) (U:Option Nat) (s' :Nat) (p:Array Nat) (c' :Nat):
  Conc E G fr st a (setBlock w r (.mapIter U s' p c')):=by
 have hsz:(setBlock w r (.mapIter U s' p c')).heap.size=w.heap.size:=by
  show (w.heap.setIfInBounds _ _).size=_;simp
 have j: ∀b o v,w.cell? ⟨b,o,none⟩=some v→b≠r:=by
  rintro b o v C rfl;unfold World.cell? at C;simp only [hr] at C;cases C
 exact
  { h with
    hold:=fun b o v C=>by
     have h1:=h.hold b o v C;exact (World.cell?_of_block (w:=w) (a:=⟨b,o,none⟩) (gz (j b o v h1))).trans h1
    below:=h.below.trans (K' :=fun b=>b=r) ⟨rfl,rfl,rfl,by rw [hsz];exact gA4 _,fun k _ hn=>gz hn⟩ (fun x e=>e▸ho.symm)
    box:=fun id cs fz R=>by
     obtain ⟨g,I,J,t,vs,i,P⟩:=h.box id cs fz R;exact ⟨g,I,J,t,vs,i.of (gz (i.noIter hr)),P⟩
    row:=fun s r' R=>by
     obtain ⟨⟨I,e,T,i,P⟩,k5⟩:=h.row s r' R;exact ⟨⟨I,e,T,by rw [gz (fun e=>by rw [e,hr] at i;cases i)];exact i,P⟩,k5⟩
    phi:=fun k x hk=>by
     obtain ⟨⟨I,J⟩,i,P⟩:=h.phi k x hk;refine ⟨⟨I,J.on (.refl _) (gz fun e=> ?_) J.free⟩,i,P⟩;obtain ⟨_,_,q1,_⟩:=J;rw [e,hr] at q1;cases q1}
theorem Fa (g:Array MapEntry):leftOf g #[]=g:=by
 unfold leftOf;exact Array.filter_eq_self.2 fun x _=>by simp
theorem sO {g:Array MapEntry} {seen:Array Nat} (hn:(g.toList.map (·.born)).Nodup) {j:Nat} {e:MapEntry} (I:(leftOf g seen).toList[j]? =some e):(leftOf g (seen.push e.born)).toList=(leftOf g seen).toList.eraseIdx j:=by
 have r:((leftOf g seen).toList.map (·.born)).Nodup:=by
  unfold leftOf;rw [Array.toList_filter];exact hn.sublist (List.filter_sublist.map _)
 rw [lf (p:=fun y=> !(y.born==e.born)) I (by simp) fun i y hy C=> ?_]
 ·unfold leftOf
  rw [Array.toList_filter,Array.toList_filter,List.filter_filter];congr 1;funext y;by_cases hb:y.born=e.born<;>simp [hb]
 ·rw [Bool.not_eq_true',beq_eq_false_iff_ne]
  intro P;refine C ?_;have J:((leftOf g seen).toList.map (·.born))[i]? =some e.born:=by rw [gA8,hy];simp [P]
  have R:((leftOf g seen).toList.map (·.born))[j]? =some e.born:=by rw [gA8,I];rfl
  exact (List.getElem?_inj (gA0 J).1 r).1 (J.trans R.symm)
theorem wOz {α:Type}: ∀{l:List α} {j:Nat} {x:α},l[j]? =some x→l=l.take j++x::l.drop (j+1)∧l.eraseIdx j=l.take j++l.drop (j+1)
 |y::l,0,x,h=>by simp at h;subst h;simp
 |y::l,j+1,x,h=>by
  obtain ⟨g,i⟩:=wOz (l:=l) (j:=j) (x:=x) (by simpa using h);simp only [List.take_succ_cons,List.drop_succ_cons,List.eraseIdx_cons_succ,List.cons_append];rw [←g,i];exact ⟨rfl,rfl⟩
def MQ (P:Program) (E:Env) (Q:Exit→Fr→St→Prop) (k:List AItem) (i:Nat) (H:List (Nat×List AV)) {ι:Type} (J:ι→Fr×St) (I:ι→Prop) (L:ι→List MRow) (nx:Option (List MRow)):Exit→Fr→St→Prop:=fun e f s=>match e with
 | .normal=> ∀j G a w,Conc j G f s a w→ ∃g,I g∧nx=some (L g)∧ ∃G',Conc j G' (J g).1 (J g).2 a w
 | .exit id=>if id=i then AK P E Q k (gB (aw H) f) (pX H s) else (KS P E Q k).2 id (gB (aw H) f) (pX H s)
 |e=>Q e (gB (aw H) f) (pX H s)
theorem LI {P:Program} {E:Env} {Q:Exit→Fr→St→Prop} {k:List AItem} {i:Nat} {H:List (Nat×List AV)} {ι:Type} {J:ι→Fr×St} {I:ι→Prop} {L:ι→List MRow} {nx:Option (List MRow)} {f:Fr} {s:St} (g:ι) (hi:I g) (j:nx=some (L g)) (p:Weak f s (J g).1 (J g).2):
  MQ P E Q k i H J I L nx .normal f s:=fun r G a w C=>⟨g,hi,j,p r G a w C⟩
theorem LJ {P:Program} {E:Env} {Q:Exit→Fr→St→Prop} {k:List AItem} {g:Nat} {H:List (Nat×List AV)} {ι:Type} {J:ι→Fr×St} {I:ι→Prop} {L:ι→List MRow} {nx:Option (List MRow)} {f:Fr} {s:St} (h:AK P E Q k (gB (aw H) f) (pX H s)):MQ P E Q k g H J I L nx (.exit g) f s:=by
 unfold MQ;simp only;rw [if_pos trivial];exact h
theorem AK.exitMQ {P:Program} {E i:Env} {Q:Exit→Fr→St→Prop} {k:List AItem} {g:Nat} {H:List (Nat×List AV)} {ι:Type} {J:ι→Fr×St} {I:ι→Prop} {L:ι→List MRow} {nx:Option (List MRow)} {f:Fr} {s:St} {a:ACode} (h:AK P E Q k (gB (aw H) f) (pX H s)):AK P i (MQ P E Q k g H J I L nx) [.c (.exit g),.c a] f s:=
 AK.exitQ (k:= [.c a]) (show MQ P E Q k g H J I L nx (.exit g) f s from LJ h)
theorem AK.mrange {l1 pre post:List GI} {b:ACode} {U d0 d1:Nat} {t:TypeId} {x0 x1:Opd} (m:Nat) (rows:List MRow) (H:List (Nat×List AV)) (rs:List RS) {rs' :List RS} {fr1:Fr} {st1:St} {p1:Prop}
  {ι:Type} (J:Nat→ι→Fr×St) (I:ι→Prop) (L:ι→List MRow) (i0:ι) (hp1:p1) (hI0:I i0) (hL0:L i0=rows) (hH: ∀x∈H,st1.box x.1=some (x.2,false)) (hid: ∀x∈H,1000000≤x.1) (hin: ∀x∈H,∀c∈x.2,AV.inS (aw H) c=true)
  (hm:(m,[mcA rows])∈H) (h0: ∀r,Weak (aG fr1 d0 (itA r)) ⟨C2 H st1.box,st1.row⟩ (J r i0).1 (J r i0).2) (hJ: ∀r i,x1.ev (J r i).1=some (itA r))
  (hmore: ∀(E2:Env) r i la row lb,E2.n=E.n→I i→L i=la++row::lb→J4 P E2 r row→ ∃rs rs' f2 s2 p2,iS P post rs (aG (J r i).1 d1 (.tup [.bool true,ey row.1,ey row.2])) (J r i).2=some (rs',f2,s2,p2)∧p2∧AK P E2 (MQ P E Q k U H (J r) I L (some (la++lb))) [.c b] f2 s2)
  (hend: ∀(E2:Env) r i,E2.n=E.n→I i→L i= []→ ∃rs rs' f2 s2 p2,iS P post rs (aG (J r i).1 d1 (.tup [.bool false])) (J r i).2=some (rs',f2,s2,p2)∧p2∧AK P E2 (MQ P E Q k U H (J r) I L none) [.c b] f2 s2)
  (hl1:pZ l1=some (pre,t,d0,x0):=by rfl) (hs:iS P pre rs fr st=some (rs',fr1,st1,p1):=by rfl) (hx0:x0.ev fr1=some (.np m 0):=by rfl) (hmp:cC m=true:=by rfl):
  AK P E Q (.c (.seq (.reg l1) (.block U (.loop (.seq (.reg (⟨none,.nxt d1 x1⟩::post)) b))))::k) fr st:=by
 intro hd mu c G ac w hc _ hC;simp only [eB,gA9] at hd;obtain ⟨hd1,hd2,hdb⟩:=hd;obtain ⟨y,z,rfl,hy,hz⟩:=ko hc;have hl1' :=kp hl1;obtain ⟨id1,ops1,rfl,hops1⟩:=gO hy (by rw [hl1'];simp [GI.iter]);obtain ⟨z1,rfl,hz1⟩:=pY hz;obtain ⟨z2,rfl,hz2⟩:=sN hz1;obtain ⟨v,cb,rfl,hv,hcb⟩:=ko hz2;obtain ⟨id2,ops2,rfl,hops2⟩:=gO hv rfl;have hat1:=po hops1;have hat2:=po hops2;obtain ⟨S1,hS1,q1,hst1,hpq1⟩:=bI hs;have hsz1:ops1.size=S1.length+1:=by rw [←hat1.1,hl1',←hS1];simp
 refine wp_seq (wp_region ?_);rw [List.range_eq_range',hsz1,List.range'_1_concat];refine uE (tail:= [0+S1.length]) hat1 hd1 (fun G1 a1 w1 hC1=> ?_) (l:=S1) (k:=0) (fun j x hx=>by rw [hl1',Nat.zero_add,←hS1,gC1 (gA0 hx).1];exact hx) (by omega) hst1 (hpq1 hp1) hC;have hglast:l1[0+S1.length]? =some ⟨none,.rng t d0 x0⟩:=by rw [hl1',←hS1,Nat.zero_add,gC2 (by simp)];simp
 refine gy hat1 hglast fun gs o ho=> ?_
 obtain ⟨xo,e1,e2,e3,kt,et,hu⟩:=J2 ho;obtain ⟨C,hB,hown,tt,vs,hHeap,hrel,htags,hfree⟩:=hC1.box m _ false (hH _ hm);obtain ⟨es,clock,rows',hes,hst,hpm,hents⟩:=pW hmp hHeap hrel
 have hval:a1.eval xo= .map (some C):=by
  obtain ⟨_,_,g,k1,k2⟩:=hC1.ev e3 hx0;rw [k1,←k2 C hB];unfold npV;rw [hmp]
 have hrun:=run_range_map (P:=P) w1 t kt et C es clock hu hes;have hgm:=hHeap.lt
 refine js (v:= .pointer (some ⟨w1.heap.size,0,none⟩)) (w' :=w1.alloc (.mapIter (some C) clock #[] clock)) (by
  unfold execOp;rw [e1];simp only [hval,Sem.run_bind,hrun,Result.andThen_ok,Sem.run_pure]) e2 ?_
 have hdn0:d0<E.n:=dy hd1 hglast d0 rfl
 have hC2:Conc E G1 (aG fr1 d0 (itA w1.heap.size)) st1 (a1.put (some d0) (.pointer (some ⟨w1.heap.size,0,none⟩))) (w1.alloc (.mapIter (some C) clock #[] clock)):=
  (hC1.same ((Below.refl w1.heap.size w1).alloc (gA4 _) _)).put hdn0 ⟨.raw _ rfl,trivial⟩
 have hr2:=heap_alloc_new w1 (.mapIter (some C) clock #[] clock);have hm2:(w1.alloc (.mapIter (some C) clock #[] clock)).heap[C]? =some (.map es clock):=(heap_alloc_old w1 _ hgm).trans hes;have hrlt:w1.heap.size<(w1.alloc (.mapIter (some C) clock #[] clock)).heap.size:=(gC0 hr2).1;have hrB: ∀id g,G1.B id=some g→g≠w1.heap.size:=fun id g hg=>Nat.ne_of_lt (hC1.Blt id g hg)
 have hrE:E.own w1.heap.size:= .inl hC1.lt;show (Code.block U _).wp P _ _ _;clear hHeap hrel htags hfree;generalize w1.heap.size=r at*;generalize a1.put (some d0) (.pointer (some ⟨r,0,none⟩))=a2 at*;generalize w1.alloc (.mapIter (some C) clock #[] clock)=w2 at*;have hC3:=hC2.away hH hid (Pr:=fun b=> ∃x∈H,G1.B x.1=some b) (fun b hb=> .inl hb);obtain ⟨G4,hC4⟩:=h0 r _ _ a2 w2 hC3;clear hC3;generalize hgw:E.gwb hC2.below=gw at hC4;clear hgw;generalize hE1:E.re w2 G1.σ gw (fun b=> ∃x∈H,G1.B x.1=some b)=E1 at hC4
 have hown1:E1.own r:=by
  rw [←hE1];exact rL.2 (.inr ⟨hrE,fun ⟨x,_,e⟩=>hrB _ _ e rfl⟩)
 have hnk1: ¬E1.K0 C:=by
  rw [←hE1];exact fun hk=>(sM.1 hk).2 ⟨_,hm,hB⟩
 have hw01:E1.w0=w2:=by rw [←hE1];rfl
 have hσ1:E1.σ0=G1.σ:=by rw [←hE1];rfl
 have hn1:E1.n=E.n:=by rw [←hE1];rfl
 have hgm2:C<w2.heap.size:=(gC0 hm2).1
 have conv: ∀(nx:Option (List MRow)) e G' f s a' w',e≠Exit.normal→Conc E1 G' f s a' w' →MQ P E Q k U H (J r) I L nx e f s→Exit.inBlock U (fun e a' w' => ∃G' fr' st',Conc E G' fr' st' a' w' ∧mkQ Q (KS P E Q k).1 (KS P E Q k).2 e fr' st') e a' w' :=by
  intro nx e G' f s a' w' hne hc hq;rw [←hE1] at hc;have hcb:=Conc.back hC2 hH hid hin (fun x hx b hb=>⟨x,hx,hb⟩) hc;cases e with
  |normal=>exact absurd rfl hne
  |exit i=>
   simp only [Exit.inBlock];simp only [MQ] at hq;by_cases hi:i=U
   ·rw [if_pos hi] at hq⊢
    exact ⟨_,_,_,hcb,hq⟩
   ·rw [if_neg hi] at hq⊢
    exact ⟨_,_,_,hcb,hq⟩
  |goto l=>exact ⟨_,_,_,hcb,hq⟩
  |ret=>exact ⟨_,_,_,hcb,hq⟩
  |panic ch=>exact ⟨_,_,_,hcb,hq⟩
  |outgrown=>exact ⟨_,_,_,hcb,hq⟩
 refine wp_block (wp_loop (fun a w=> ∃i G' seen,I i∧Conc E1 G' (J r i).1 (J r i).2 a w∧w.heap[r]? =some (.mapIter (some C) clock seen clock)∧ ∃l',l'.Perm (L i)∧b8 G1.σ (leftOf es seen).toList l')
  (fun _ w=>match w.heap[r]? with|some (.mapIter _ _ seen _)=>(leftOf es seen).size|_=>0) ⟨i0,G4, #[],hI0,hC4,hr2,by rw [Fa,hL0];exact ⟨rows',hpm,hents⟩⟩ ?_)
 rintro a5 w5 ⟨i,G5,seen,hIi,hC5,hr5,L',hL',hE5⟩;have hm5:w5.heap[C]? =some (.map es clock):=(hC5.below.block C (by rw [hw01];exact hgm2) hnk1).trans (by rw [hw01];exact hm2);refine wp_seq (wp_region ?_);have hsz2:ops2.size=post.length+1:=by rw [←hat2.1];simp
 rw [List.range_eq_range',hsz2,List.range'_succ];refine gy hat2 (j:=0) rfl fun gs o ho=> ?_
 obtain ⟨xo2,e4,e5,e6⟩:=J3 ho;have hv2:a5.eval xo2= .pointer (some ⟨r,0,none⟩):=uD (hC5.ev e6 (hJ r i)).1;have hdn1:d1<E1.n:=by rw [hn1];exact dy hd2 (k:=0) rfl d1 rfl
 rcases run_next_at (P:=P) w5 o.type r C clock clock seen es clock hr5 hm5 hst.1 (gA4 _) with ⟨hz,hrun⟩|⟨e,he,w6,hw6,hrun⟩
 ·have hLi:L i= []:=by
   have h1:=hE5.1;rw [Array.length_toList,hz] at h1;rw [List.length_eq_zero_iff.1 h1.symm] at hL';exact hL'.nil_eq.symm
  obtain ⟨rs2,rs2',f2,s2,p2,ha,hp2,hK⟩:=hend E1 r i hn1 hIi hLi;obtain ⟨S2,hS2,q2,hst2,hpq2⟩:=bI ha
  refine js (v:= .tuple #[.bool false]) (w' :=w5) (by
   unfold execOp;rw [e4];simp only [hv2,Sem.run_bind,hrun,Result.andThen_ok,Sem.run_pure]) e5 ?_
  have hC6:=hC5.put (v:= .tuple #[.bool false]) (x:= .tup [.bool false]) hdn1 ⟨[.bool false],rfl,rfl,fun j u y hu hy=>by
   rcases j with _|j
   ·simp at hu hy;subst hu hy;exact .of (.bool _)
   ·simp at hu⟩
  have hl:post.length=S2.length:=by rw [←hS2];simp
  rw [hl];refine mw hat2 (by rw [hn1];exact hd2) (fun G' a' w' hc=> ?_) (l:=S2) (k:=1) (fun j=>by rw [hS2,Nat.add_comm,List.getElem?_cons_succ]) (by omega) hst2 (hpq2 hp2) hC6;show cb.wp P _ a' w';refine wp_mono (hK (by rw [hn1];exact hdb) mu cb G' a' w' hcb (by rw [hn1];exact hdb) hc) fun e a9 w9 ⟨G9,f9,s9,R,hQ9⟩=> ?_
  have p:MQ P E Q k U H (J r) I L none e f9 s9:=by cases e<;>exact hQ9
  cases e with
  |normal=>obtain ⟨_,_,h2,_⟩:=p E1 G9 a9 w9 R;cases h2
  |exit i=>exact conv none _ G9 f9 s9 a9 w9 (fun h=>by cases h) R p
  |goto l=>exact conv none _ G9 f9 s9 a9 w9 (fun h=>by cases h) R p
  |ret=>exact conv none _ G9 f9 s9 a9 w9 (fun h=>by cases h) R p
  |panic ch=>exact conv none _ G9 f9 s9 a9 w9 (fun h=>by cases h) R p
  |outgrown=>exact conv none _ G9 f9 s9 a9 w9 (fun h=>by cases h) R p
 ·obtain ⟨j,hj⟩:=List.getElem?_of_mem he
  have hjl:=(gA0 hj).1;obtain ⟨row,hrow⟩: ∃row,L'[j]? =some row:=⟨_,gA1 (by rw [←hE5.1];exact hjl)⟩
  obtain ⟨ek1,ek2,eo1,eo2⟩:=hE5.2 j e row hj hrow;obtain ⟨hsp1,hsp2⟩:=wOz hrow;obtain ⟨la,lb,hLi⟩:=List.append_of_mem (hL'.mem_iff.1 (gA2 hrow))
  have hpl:(L'.eraseIdx j).Perm (la++lb):=by
   rw [hsp1,hLi] at hL';rw [hsp2];exact ((List.perm_middle.symm.trans hL').trans List.perm_middle).cons_inv
  have hr6:w6.heap[r]? =some (.mapIter (some C) clock seen clock):=by rcases hw6 with rfl|rfl<;>exact hr5
  have hm6:w6.heap[C]? =some (.map es clock):=by rcases hw6 with rfl|rfl<;>exact hm5
  have hC6:Conc E1 G5 (J r i).1 (J r i).2 a5 w6:=by
   rcases hw6 with rfl|rfl
   ·exact hC5
   ·exact hC5.same (Below.refl _ _).drew
  have hC7:=hC6.setIter hr6 hown1 (some C) clock (seen.push e.born) clock;have hr7:(setBlock w6 r (.mapIter (some C) clock (seen.push e.born) clock)).heap[r]? =some (.mapIter (some C) clock (seen.push e.born) clock):=J5 hr6;have hgr:C≠r:=fun e=>by rw [e,hr6] at hm6;cases hm6
  have hm7:(setBlock w6 r (.mapIter (some C) clock (seen.push e.born) clock)).heap[C]? =some (.map es clock):=(gz hgr).trans hm6;generalize setBlock w6 r (.mapIter (some C) clock (seen.push e.born) clock)=w7 at*;have hσ5:G1.σ.le G5.σ:=by have:=hC5.ext.1;rw [hσ1] at this;exact this
  have rk: ∀σ',G5.σ.le σ' →RelP σ' e.key (ey row.1)∧RelP σ' e.val (ey row.2):=fun σ' hle=>⟨rG eo1 (ek1.mono (hσ5.trans hle)),rG eo2 (ek2.mono (hσ5.trans hle))⟩
  have hC8:=hC7.put (v:= .tuple #[.bool true,e.key,e.val]) (x:= .tup [.bool true,ey row.1,ey row.2]) hdn1 ⟨[.bool true,e.key,e.val],rfl,rfl,fun j u y hu hy=>by
   rcases j with _|_|_|j
   ·simp at hu hy;subst hu hy;exact .of (.bool _)
   ·simp at hu hy;subst hu hy;exact .of (rk _ (.refl _)).1
   ·simp at hu hy;subst hu hy;exact .of (rk _ (.refl _)).2
   ·simp at hu⟩
  have R:=hC8.away0 hr7;generalize E1.gwb hC8.below=gw7 at R;have hw7:r<w7.heap.size:=(gC0 hr7).1;have hgm7:C<w7.heap.size:=(gC0 hm7).1
  have hEnt:J4 P (E1.re w7 G5.σ gw7 (fun b=>b=r)) r row:=fun G' f s a' w' hc=>by
   have q1:w'.heap[r]? =w7.heap[r]? :=hc.below.block r hw7 fun hk=>(sM.1 hk).2 rfl
   have q2:w'.heap[C]? =w7.heap[C]? :=hc.below.block C hgm7 fun hk=>by
    rcases (sM.1 hk).1 with h1|h1
    ·rw [hw01] at h1;omega
    ·exact hnk1 h1
   have hmem:e∈es.toList:=by
    unfold leftOf at he;rw [Array.toList_filter] at he;exact (List.mem_filter.1 he).1
   exact ⟨e.key,e.val,run_entry_at w' r C clock seen es clock e (q1.trans hr7) (q2.trans hm7) hmem hst.2.1,rk _ hc.ext.1⟩
  obtain ⟨rs2,rs2',f2,s2,p2,ha,hp2,hK⟩:=hmore (E1.re w7 G5.σ gw7 (fun b=>b=r)) r i la row lb hn1 hIi hLi hEnt;obtain ⟨S2,hS2,q2,hst2,hpq2⟩:=bI ha
  refine js (v:= .tuple #[.bool true,e.key,e.val]) (w' :=w7) (by
   unfold execOp;rw [e4];simp only [hv2,Sem.run_bind,hrun,Result.andThen_ok,Sem.run_pure]) e5 ?_
  have hl:post.length=S2.length:=by rw [←hS2];simp
  rw [hl];have hn2:(E1.re w7 G5.σ gw7 (fun b=>b=r)).n=E.n:=hn1;refine mw hat2 (by rw [hn2];exact hd2) (fun G' a' w' hc=> ?_) (l:=S2) (k:=1) (fun j=>by rw [hS2,Nat.add_comm,List.getElem?_cons_succ]) (by omega) hst2 (hpq2 hp2) R;show cb.wp P _ a' w';refine wp_mono (hK (by rw [hn2];exact hdb) mu cb G' a' w' hcb (by rw [hn2];exact hdb) hc) fun ex a9 w9 ⟨G9,f9,s9,R,hQ9⟩=> ?_
  have p:MQ P E Q k U H (J r) I L (some (la++lb)) ex f9 s9:=by cases ex<;>exact hQ9
  have T:=Conc.back0 hC8 R;cases ex with
  |normal=>
   obtain ⟨i',hi',hLn,G11,hC11⟩:=p E1 G9 a9 w9 T;have q1:w9.heap[r]? =some (.mapIter (some C) clock (seen.push e.born) clock):=(R.below.block r hw7 fun hk=>(sM.1 hk).2 rfl).trans hr7;refine ⟨⟨i',G11,seen.push e.born,hi',hC11,q1,?_⟩,?_⟩
   ·rw [sO hst.2.1 hj,←Option.some.inj hLn]
    exact ⟨_,hpl,EY hE5 j⟩
   ·simp only [q1,hr5]
    rw [←Array.length_toList,sO hst.2.1 hj,List.length_eraseIdx_of_lt hjl,Array.length_toList];rw [Array.length_toList] at hjl;omega
  |exit i=>exact conv _ _ G9 f9 s9 a9 w9 (fun h=>by cases h) T p
  |goto l=>exact conv _ _ G9 f9 s9 a9 w9 (fun h=>by cases h) T p
  |ret=>exact conv _ _ G9 f9 s9 a9 w9 (fun h=>by cases h) T p
  |panic ch=>exact conv _ _ G9 f9 s9 a9 w9 (fun h=>by cases h) T p
  |outgrown=>exact conv _ _ G9 f9 s9 a9 w9 (fun h=>by cases h) T p
end
end Go.Proofs.YtbgflifmanjpjaaGreatDoor
