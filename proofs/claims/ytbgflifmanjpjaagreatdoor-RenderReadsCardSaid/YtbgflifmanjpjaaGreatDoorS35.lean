/- Part 35. -/
import Derived.Test.YtbgflifmanjpjaaGreatDoorS34
set_option linter.unusedSimpArgs false
set_option linter.unusedVariables false
namespace Go.Proofs.YtbgflifmanjpjaaGreatDoor
section
open Go.RowKit
def SK (P:Program) (E:Env) (Q:Exit→Fr→St→Prop) (k:List AItem) (l:List GI) (fr:Fr) (st:St):Prop:=
 ∀(mu:List Nat) (g:Array Oper) (i pre:List GI),At P mu g i→gE E.n i=true→i=pre++l→ ∀(G:Gho) (a:Act) (w:World),Conc E G fr st a w→
  wpOps P g (fun e j w' => ∃G' fr' st',Conc E G' fr' st' j w' ∧mkQ Q (KS P E Q k).1 (KS P E Q k).2 e fr' st') (List.range' pre.length l.length) a w
section
variable {P:Program} {mu:List Nat} {E:Env} {G:Gho} {fr fr' fr1 fr2:Fr} {st st' st1 st2:St} {a:Act} {w:World} {Q:Exit→Fr→St→Prop} {k:List AItem}
theorem C3 {c:Code} {l:List GI} (h:ah P mu c=some (.regs l)): ∃id g,c= .region id g false∧sh P mu g 0 g.toList=some l:=by
 cases c with
 |region id g j=>
  simp only [ah] at h;split at h
  ·rename_i p hl
   split at h
   ·split at h
    ·rename_i i
     cases h;rw [gA9] at i;have:j=false:=by simpa using i.2
     subst this;exact ⟨id,g,rfl,hl⟩
    ·cases h
   ·split at h<;>cases h
  ·cases h
 |cond x t e=>simp only [ah] at h;split at h<;>cases h
 |seq x y=>simp only [ah] at h;split at h<;>cases h
 |block id b=>simp only [ah] at h;split at h<;>cases h
 |loop b=>simp only [ah] at h;split at h<;>cases h
 |_=>cases h
theorem AK.regs {l:List GI} (h:SK P E Q k l fr st):AK P E Q (.c (.regs l)::k) fr st:=by
 intro r mu c G C w I _ J;obtain ⟨id,j,rfl,g⟩:=C3 I;have i:=po g;have p:gE E.n l=true:=r;refine wp_region ?_;rw [List.range_eq_range',←i.1];exact h mu j l [] i p rfl G C w J
theorem SK.nil (h:AK P E Q k fr st):SK P E Q k [] fr st:=by
 intro mu g j pre _ _ _ G a w i;exact ⟨G,fr,st,i,h⟩
theorem SK.app {r C:List GI} {rs I:List RS} {p:Prop} (hs:iS P r rs fr st=some (I,fr',st',p)) (hp:p) (h:SK P E Q k C fr' st'):SK P E Q k (r++C) fr st:=by
 intro mu J gl pre g hd i G a w hC;obtain ⟨S,hS,q,R,T⟩:=bI hs;have U:S.length=r.length:=by rw [←hS,List.length_map]
 have e:List.range' pre.length (r++C).length=List.range' pre.length S.length++List.range' (pre++r).length C.length:=by
  rw [gA5,gA5,U,List.range'_append_1]
 rw [e];refine uE g hd (fun G' a' w' hC' =>h mu J gl (pre++r) g hd (by rw [i,List.append_assoc]) G' a' w' hC') (fun j x hx=> ?_) ?_ R (T hp) hC
 ·rw [hS] at hx
  rw [i,gC2 (by omega),show pre.length+j-pre.length=j by omega,gC1 (gA0 hx).1];exact hx
 ·rw [←g.1,i,gA5,gA5]
  omega
theorem SK.run {l:List GI} (j:Nat) (rs:List RS) {g:List RS} {p:Prop} (i:p) (h:SK P E Q k (l.drop j) fr' st') (r:iS P (l.take j) rs fr st=some (g,fr',st',p):=by rfl):SK P E Q k l fr st:=by
 have:=SK.app r i h
 rwa [List.take_append_drop] at this
theorem SK.all {l:List GI} (rs:List RS) {g:List RS} {p:Prop} (i:p) (h:AK P E Q k fr' st') (j:iS P l rs fr st=some (g,fr',st',p):=by rfl):SK P E Q k l fr st:=by
 have:=SK.app j i (SK.nil h)
 rwa [List.append_nil] at this
structure MSX {ι:Type} (P:Program) (f:FuncId) (S:List (Nat×List AV)) (args:List AV) (I:ι→Prop) (S' :ι→List (Nat×List AV)) (r:ι→AV):Prop where
 cb:ab P f=true
 run: ∀(σ:Sg) (w:World) (B:Nat→Option Nat) (vs:List Value),Holds σ w→GW w→(∀id g,B id=some g→id∈aw S)→(∀id id' g,B id=some g→B id' =some g→id=id')→(∀id g,B id=some g→ ¬ob g)→BoxesAt σ w B S→RelBs σ B vs args→
  Calls P f vs.toArray w fun e w' => ∃i,I i∧ ∃σ' v B',e= .returned v∧ExtK (fun b=> ∃id,B id=some b) σ σ' w.heap.size∧Holds σ' w' ∧BelowK (fun b=> ∃id,B id=some b) w w' ∧(∀id g,B' id=some g→id∈aw (S' i))∧(∀id id' g,B' id=some g→B' id' =some g→id=id')∧
   BoxesAt σ' w' B' (S' i)∧RelB σ' B' v (r i)∧(∀id g,B' id=some g→(∃id',B id' =some g)∨w.heap.size≤g)∧ ∀id g g',B id=some g→B' id=some g' →g=g'
theorem J6 {ι:Type} {I:ι→Prop} {S' :ι→List (Nat×List AV)} {r:ι→AV} {o:Oper} {K:Act→World→Prop} {Q:Exit→Act→World→Prop} (h:Conc E G fr st a w) {c:Call} {f:Operand} (ho:o.op= .call c) (R:c.callee= .value f) {fid:FuncId} {cap av bs:List AV} {ids:List Nat} {S:List (Nat×List AV)} {us:List Value} {ts:List TypeId} {ys:List Opd} (hfe:a.eval f= .func (.func fid) #[] us.toArray) (hus:RelL G.σ us cap)
  (T:bS P c.args.toList ts=some ys) (hav:evs fr ys=some av) (hbs:iR av=some bs) (hS:pj st.box ids=some S) (p: ∀i,I i→(okS ids (S' i) (r i)&&bf st.box (au ids (S' i)))=true) (hMS:MSX P fid S (bs++cap) I S' r) (hn: ∀d,o.dst=some d→d<E.n)
  (hk: ∀i,I i→Then E (match o.dst with|some d=>aG (gB (au ids (S' i)) fr) d (r i)|none=>gB (au ids (S' i)) fr) ⟨jM (jL (au ids (S' i)) st.box) ids (S' i),st.row⟩ K):o.wp P a w K Q:=by
 obtain ⟨U,hd2⟩:=iT hS;have hrel:=(mj h ids T hav hbs).append (cap:=cap) hus;unfold Oper.wp;rw [cR ho R hMS.cb hfe,Oper.upon_enter];have hgw:=E.gwb h.below
 have hat:BoxesAt G.σ w (inB G.B ids) S:=fun id cs hm=>by
  obtain ⟨cs0,k1,k2⟩:=hd2 _ hm;simp only at k1 k2;subst k2;obtain ⟨g,q1,q2,t,vs,q3,q4,q5,q6⟩:=h.box id cs0 false k1;have hid:id∈ids:=by rw [←U];exact List.mem_map.2 ⟨_,hm,rfl⟩
  refine ⟨g,t,vs,by rw [iC hid];exact q1,q3,?_,fun j v c hv R=> ?_,fun j=>q6 j⟩
  ·rw [List.map_map,show AV.unown∘AV.told=AV.unown from funext ec]
   exact q4
  ·rw [gA8] at R
   cases hc0:cs0[j]? with
   |none=>rw [hc0] at R;cases R
   |some c0=>rw [hc0] at R;cases R;exact (q5 j v c0 (by simpa using hv) hc0).toB
 refine (hMS.run G.σ w (inB G.B ids) _ h.hold hgw (fun id g hg=>by rw [U];exact (aH hg).1) (fun id id' g h1 h2=>h.binj id id' g (aH h1).2 (aH h2).2) (fun id g hg=> ?_) hat hrel).mono fun e w' ⟨i,hi,σ',v,B',he,hx,hh,hb,hdom,hinj,hat',hr,C,hkept⟩=> ?_
 ·obtain ⟨k1,k2⟩:=aH hg
  rw [←U] at k1;obtain ⟨x,hxS,e⟩:=List.mem_map.1 k1;obtain ⟨cs,q1,_⟩:=hd2 x hxS;rw [e] at q1;obtain ⟨g',q2,q3,_⟩:=h.box id cs false q1;rw [k2] at q2;cases q2;exact E.ownGl q3
 ·subst he
  have J:=p i hi;rw [gA9] at J;obtain ⟨p,hfree⟩:=J;obtain ⟨G',hG',hσ,hB⟩:=h.handed hS p hfree hx hh hb hdom hinj hat' C hkept;have hk:=hk i hi;cases hd:o.dst with
  |none=>exact hk G' a w' (by rw [hd];exact hG')
  |some d=>
   refine hk G' (a.put (some d) v) w' ?_;rw [hd];refine hG'.put (hn d hd) (qv hσ hB ?_ hr);unfold okS at p;simp only [gA9] at p;exact p.2
theorem J7 {gs:Bool} {o:Oper} {d:Option Nat} {f:Opd} {xs:List Opd} (h:aW P mu gs o=some (.calls d f xs)): ∃c g,o.op= .call c∧c.callee= .value g∧be P 0 g=some f∧bS P c.args.toList c.argTypes.toList=some xs∧d=o.dst:=by
 unfold aW at h
 (repeat' split at h)<;>first
  |(cases h;done)
  |(cases h;exact ⟨_,_,by assumption,by assumption,by assumption,by assumption,rfl⟩)
theorem SK.callX {ι:Type} (I:ι→Prop) (S' :ι→List (Nat×List AV)) (r:ι→AV) (ids:List Nat) {d:Option Nat} {f:FuncId} {xs:List Opd} {post:List GI} {av bs:List AV} {S:List (Nat×List AV)} (hM:MSX P f S bs I S' r) (C: ∀i,I i→(okS ids (S' i) (r i)&&bf st.box (au ids (S' i)))=true)
  (h: ∀i,I i→SK P E Q k post (match d with|some d=>aG (gB (au ids (S' i)) fr) d (r i)|none=>gB (au ids (S' i)) fr) ⟨jM (jL (au ids (S' i)) st.box) ids (S' i),st.row⟩)
  (J:evs fr xs=some av:=by rfl) (R:iR av=some bs:=by rfl) (hS:pj st.box ids=some S:=by rfl):SK P E Q k (⟨none,.calls d (.k (.fn f [])) xs⟩::post) fr st:=by
 intro mu T gl pre g j p G a w hC;rw [gA3,List.range'_succ];have hj:gl[pre.length]? =some ⟨none,.calls d (.k (.fn f [])) xs⟩:=by rw [p,gC2 (gA4 _),Nat.sub_self];rfl
 refine gy g hj fun gs o ho=> ?_
 obtain ⟨c,fo,h1,h2,h3,h4,h5⟩:=J7 ho;obtain ⟨us,U,hus⟩:=cg (hC.ev h3 (show Opd.ev fr (.k (.fn f []))=some (.fn f []) from rfl)).1;subst h5;refine J6 (I:=I) (S' :=S') (r:=r) hC h1 h2 U hus h4 J R hS C (by rw [List.append_nil];exact hM) (fun d hd=>dy j hj d hd) fun i hi G' a' w' hC' => ?_
 have:=h i hi mu T gl (pre++ [⟨none,.calls o.dst (.k (.fn f [])) xs⟩]) g j (by rw [p,List.append_assoc];rfl) G' a' w' hC'
 rwa [gA5] at this
def Nd {ι:Type} (gx:AV→Option AV) (res:List ARes) (I:ι→Prop) (S' :ι→List (Nat×List AV)) (r:ι→AV):Exit→Fr→St→Prop:=fun e f s=> ∃i,I i∧Jc gx res (S' i) (r i) e f s
abbrev RQX {ι:Type} (res:List ARes) (I:ι→Prop) (S' :ι→List (Nat×List AV)) (r:ι→AV):Exit→Fr→St→Prop:=Nd AV.argN res I S' r
theorem MSX.enterF {ι:Type} {gx:AV→Option AV} (hgx: ∀{G:Gho} {B' :Nat→Option Nat} {v:Value} {c x:AV},(∀id g,B' id=some g→G.B id=some g)→RelS G v c→gx c=some x→RelB2 G.σ B' v x∧x.isTup=false) {I:ι→Prop} {S' :ι→List (Nat×List AV)} {r:ι→AV} {f:FuncId} {fn:Func} {af:AFn} {args:List AV} {S:List (Nat×List AV)} (hf:P.funcs[f]? =some fn) (haf:aq P mu fn=some af) (hcb:ab P f=true) (hlen:Nat.ble args.length af.n=true) (hokS:ft S args=true)
  (hbody: ∀E:Env,E.n=af.n→AK P E (Nd gx af.res I S' r) [.c af.body] (dS 0 args) ⟨mQ S,fun _=>0⟩):MSX P f S args I S' r:=by
 have T:=hokS;unfold ft at T;rw [gA9] at T
 have hbig: ∀id,id∈aw S→2000000≤id:=fun id hid=>by
  obtain ⟨x,C,e⟩:=List.mem_map.1 hid;have:=List.all_eq_true.1 T.1 x C;rw [gA9] at this;rw [←e];exact Nat.le_of_ble_eq_true this.1
 refine ⟨hcb,fun σ w B vs hh hg hdom hinj hgl hat hr=>ol hf haf hlen (by unfold ft;rw [gA9];exact ⟨T.1,rfl⟩) hbody hh hg hdom hinj hgl hat hr.1 (fun j v x hv C=>pv (G:=⟨σ,B,fun _ _=>none,fun _=>none⟩) (hr.2 j v x hv C) (List.all_eq_true.1 T.2 x (gA2 C))) fun E G' f' s' a' w' e e1 e2 e3 e4 p hQ hres=> ?_⟩;obtain ⟨i0,hi0,hQ⟩:=hQ;have he:e= .normal∨e= .ret:=by cases e<;>first|exact .inl rfl|exact .inr rfl|exact hQ.elim
 have hQ' :(∃l,bo gx f' s' af.res=some l∧oi l=r i0)∧vp s' (S' i0):=by rcases he with rfl|rfl<;>exact hQ
 obtain ⟨⟨l,hl,hr1⟩,hbx⟩:=hQ';have J: ∀id g,inB G'.B (aw (S' i0)) id=some g→id∈aw (S' i0)∧G'.B id=some g:=fun id g hg=>aH hg
 obtain ⟨us,k1,k2,k3⟩:=px p (R:=fun v x=>RelB2 G'.σ (inB G'.B (aw (S' i0))) v x∧x.isTup=false) (fun v c x hc C=>hgx (fun id g hg=>(J id g hg).2) hc C) hres hl
 have hown: ∀id g,inB G'.B (aw (S' i0)) id=some g→(∃id',B id' =some g)∨w.heap.size≤g:=fun id g hg=>by
  obtain ⟨q1,q2⟩:=J id g hg;obtain ⟨x,C,e⟩:=List.mem_map.1 q1;obtain ⟨ds,d1,d2⟩:=gF hbx x C;obtain ⟨g2,d3,U,_⟩:=p.box x.1 ds false d1;rw [e,q2] at d3;cases d3;rcases U with U|⟨i,U⟩|U
  ·rw [e1] at U;exact .inr U
  ·rw [e3] at U;exact .inl ⟨i,U⟩
  ·rw [e4] at U;exact U.elim
 have C:=p.ext;have hb:=p.below;have hKe:E.K0=fun b=> ∃id,B id=some b:=by funext b;unfold Env.K0;rw [e3,e4];simp
 rw [hKe,e1,e2] at C;rw [hKe,e1] at hb;refine ⟨he,_,k1,i0,hi0,G'.σ,_,inB G'.B (aw (S' i0)),rfl,C,p.hold,hb,fun id g hg=>(J id g hg).1,fun id id' g h1 h2=>p.binj id id' g (J id g h1).2 (J id' g h2).2,fun id cs hm=> ?_,?_,hown,fun id g g' h1 h2=> ?_⟩
 ·obtain ⟨ds,d1,d2⟩:=gF hbx _ hm
  simp only at d1 d2;subst d2;obtain ⟨g2,d3,U,t,vs',d5,d6,d7,d8⟩:=p.box id ds false d1;have hdm:id∈aw (S' i0):=List.mem_map.2 ⟨_,hm,rfl⟩;refine ⟨g2,t,vs',by rw [iC hdm];exact d3,d5,?_,fun j v c hv hc=> ?_,fun j=>d8 j⟩
  ·rw [List.map_map,show AV.unown∘AV.told=AV.unown from funext ec]
   exact d6
  ·rw [gA8] at hc
   cases hc0:ds[j]? with
   |none=>rw [hc0] at hc;cases hc
   |some c0=>rw [hc0] at hc;cases hc;exact (d7 j v c0 (by simpa using hv) hc0).toldB fun id g hg=>(J id g hg).2
 ·rw [←hr1]
  rcases us with _|⟨u,_|⟨v,us⟩⟩
  ·have:l= []:=List.eq_nil_of_length_eq_zero k2.symm
   subst this;exact ⟨[],rfl,rfl,fun j u x hu C=>(k3 j u x hu C).1⟩
  ·obtain ⟨x,rfl⟩:=List.length_eq_one_iff.1 k2.symm
   obtain ⟨q1,q2⟩:=k3 0 u x rfl rfl;show RelB _ _ u x;cases x<;>first|exact q1|cases q2
  ·rcases l with _|⟨x,_|⟨y,l⟩⟩<;>simp at k2
   exact ⟨u::v::us,rfl,by simp [k2],fun j u x hu C=>(k3 j u x hu C).1⟩
 ·have h3:=p.keep id g' (hbig id (hdom id g h1)) (J id g' h2).2
  rw [e3,h1] at h3;exact Option.some.inj h3
theorem MSX.enter {ι:Type} {I:ι→Prop} {S' :ι→List (Nat×List AV)} {r:ι→AV} {f:FuncId} {fn:Func} {i:AFn} {args:List AV} {S:List (Nat×List AV)} (R:P.funcs[f]? =some fn) (p:aq P mu fn=some i) (C:ab P f=true) (hlen:Nat.ble args.length i.n=true) (j:ft S args=true)
  (g: ∀E:Env,E.n=i.n→AK P E (RQX i.res I S' r) [.c i.body] (dS 0 args) ⟨mQ S,fun _=>0⟩):MSX P f S args I S' r:=
 MSX.enterF (gx:=AV.argN) (fun T h J=>⟨RelB2.of1 (pw T h J),vu J⟩) R p C hlen j g
theorem MSX.enterE {ι:Type} {I:ι→Prop} {S' :ι→List (Nat×List AV)} {r:ι→AV} {f:FuncId} {fn:Func} {i:AFn} {args:List AV} {S:List (Nat×List AV)} (R:P.funcs[f]? =some fn) (p:aq P mu fn=some i) (C:ab P f=true) (hlen:Nat.ble args.length i.n=true) (j:ft S args=true)
  (g: ∀E:Env,E.n=i.n→AK P E (Nd AV.argE i.res I S' r) [.c i.body] (dS 0 args) ⟨mQ S,fun _=>0⟩):MSX P f S args I S' r:=
 MSX.enterF (gx:=AV.argE) (fun T h J=>⟨BJ T h J,vt J⟩) R p C hlen j g
theorem MSX.ren {ι:Type} {I:ι→Prop} {S' :ι→List (Nat×List AV)} {r:ι→AV} {f:FuncId} {args:List AV} {S:List (Nat×List AV)} (h:MSX P f S args I S' r) (ρ:Nat→Nat) (hρ: ∀i j,ρ i=ρ j→i=j) (hm: ∀i,kd (ρ i)=kd i):MSX P f (qH ρ S) (args.map (AV.ren ρ)) I (fun i=>qH ρ (S' i)) (fun i=>(r i).renR ρ):=by
 refine ⟨h.cb,fun σ w B vs hh hg C U hgl hat hr=> ?_⟩
 have hK: ∀b,(∃i,B (ρ i)=some b)↔ ∃id,B id=some b:=fun b=>by
  constructor
  ·rintro ⟨i,hi⟩;exact ⟨_,hi⟩
  ·rintro ⟨id,hid⟩
   have:=C id b hid;rw [iZ] at this;obtain ⟨i,_,rfl⟩:=List.mem_map.1 this;exact ⟨i,hid⟩
 have hKe:(fun b=> ∃i,B (ρ i)=some b)=fun b=> ∃id,B id=some b:=funext fun b=>propext (hK b)
 refine (h.run σ w (fun i=>B (ρ i)) vs hh hg (fun i g hi=> ?_) (fun i j g h1 h2=>hρ _ _ (U _ _ g h1 h2)) (fun i g hi=>hgl _ g hi) (hat.unren hm fun _=>rfl) ⟨by rw [hr.1,List.length_map],fun j v a hv ha=>(RelB1.ren hm fun _=>rfl).1 (hr.2 j v (a.ren ρ) hv (by rw [gA8,ha];rfl))⟩).mono fun e w' ⟨i0,hi0,σ',v,B1,he,hx,hh',hb,J,R,hat',hr',p,T⟩=> ?_
 ·have:=C _ g hi
  rw [iZ] at this;obtain ⟨k,hk,e⟩:=List.mem_map.1 this;rw [hρ _ _ e] at hk;exact hk
 ·rw [hKe] at hx hb
  refine ⟨i0,hi0,σ',v,unren ρ B1,he,hx,hh',hb,fun id g hg=> ?_,fun id id' g h1 h2=> ?_,hat'.ren hm (fu hρ B1),hr'.ren hm (fu hρ B1),fun id g hg=> ?_,fun id g g' h1 h2=> ?_⟩
  ·obtain ⟨i,rfl,hi⟩:=aQ hg
   rw [iZ];exact List.mem_map.2 ⟨i,J i g hi,rfl⟩
  ·obtain ⟨i,rfl,hi⟩:=aQ h1
   obtain ⟨j,rfl,hj⟩:=aQ h2;rw [R i j g hi hj]
  ·obtain ⟨i,rfl,hi⟩:=aQ hg
   exact (p i g hi).imp (fun ⟨k,hk⟩=>⟨_,hk⟩) id
  ·obtain ⟨i,rfl,hi⟩:=aQ h2
   exact T i g g' h1 hi
end
def CQK {κ:Type} (K:κ→Prop) (g:κ→Fr) (s0:κ→St):Exit→Fr→St→Prop
 | .normal=>fun f s=> ∀(E:Env) (G:Gho) (a:Act) (w:World),Conc E G f s a w→ ∃i,K i∧ ∃G',Conc E G' (g i) (s0 i) a w
 |_=>fun _ _=>False
theorem AK.cutK {P:Program} {E:Env} {Q:Exit→Fr→St→Prop} {k:List AItem} {fr:Fr} {st:St} {a:ACode} {κ:Type} (K:κ→Prop) (j:κ→Fr) (s0:κ→St) (I:AK P E (CQK K j s0) [.c a] fr st) (J: ∀i,K i→AK P E Q k (j i) (s0 i)):AK P E Q (.c a::k) fr st:=by
 intro R mu c G T w U p hC;refine wp_mono (I R mu c G T w U p hC) fun e a2 w2 ⟨G3,f,s,r,g⟩=> ?_
 cases e with
 |normal=>
  obtain ⟨i,hi,G4,C⟩:=(show∀(E:Env) (G:Gho) (a:Act) (w:World),Conc E G f s a w→ ∃i,K i∧ ∃G',Conc E G' (j i) (s0 i) a w from g) E G3 a2 w2 r;exact ⟨G4,j i,s0 i,C,J i hi⟩
 |exit id=>exact (show False from g).elim
 |goto l=>exact (show False from g).elim
 |ret=>exact (show False from g).elim
 |panic ch=>exact (show False from g).elim
 |outgrown=>exact (show False from g).elim
theorem cE {P:Program} {E:Env} {fr:Fr} {st:St} {κ:Type} {K:κ→Prop} {g:κ→Fr} {s0:κ→St} (h: ∃i,K i∧Weak fr st (g i) (s0 i)):AK P E (CQK K g s0) [] fr st:=by
 obtain ⟨i,hi,j⟩:=h;exact fun E G a w p=>⟨i,hi,j E G a w p⟩
theorem cO {P:Program} {E:Env} {fr:Fr} {st:St} {κ:Type} {K:κ→Prop} {r:κ→Fr} {s0:κ→St} (s d id:Nat) {esz:Nat} {rows:List (List AV)} (C:fr s=some (.frs d esz rows)) (hid:1000000≤id) (g:st.box id=none)
  (h: ∀cap m,rows.length≤cap→(rows.flatten++List.replicate m AV.top).length=cap*esz→ ∃i,K i∧Weak (GY d id cap fr) (GZ d id cap (rows.flatten++List.replicate m AV.top) st) (r i) (s0 i)) (j:id<2000000:=by omega) (hmp:ew id=false:=by rfl):AK P E (CQK K r s0) [] fr st:=fun E G a w I=>by
 obtain ⟨cap,m,J,R,G',p⟩:=I.open s d id C hid g j hmp;obtain ⟨i,hi,T⟩:=h cap m J R;exact ⟨i,hi,T E G' a w p⟩
def AV.cln:AV→Bool
 | .int _ _| .bool _| .str _| .top=>true
 | .lst .any _ _=>true
 |_=>false
abbrev rowB (rows:List (List AV)) (m:Nat):List AV:=rows.flatten++List.replicate m AV.top
def Cln (rows:List (List AV)):Prop:= ∀r∈rows,∀c∈r,c.cln=true
theorem Cln.mem {rows:List (List AV)} (h:Cln rows) {m:Nat} {c:AV} (g:c∈rowB rows m):c.cln=true:=by
 rcases gB5 g with g|g
 ·obtain ⟨r,hr,i⟩:=List.mem_flatten.1 g
  exact h r hr c i
 ·rw [(List.mem_replicate.1 g).2]
  rfl
theorem Cln.map {rows:List (List AV)} (h:Cln rows) {g:AV→AV} (hg: ∀a:AV,a.cln=true→g a=a) (m:Nat):(rowB rows m).map g=rowB rows m:=
 (List.map_congr_left fun c i=>hg c (h.mem i)).trans (List.map_id _)
theorem Cln.all {rows:List (List AV)} (h:Cln rows) {g:AV→Bool} (hg: ∀a:AV,a.cln=true→g a=true) (m:Nat):(rowB rows m).all g=true:=List.all_eq_true.2 fun c i=>hg c (h.mem i)
theorem J8 {a:AV} (h:a.cln=true):a.told=a:=by
 cases a with
 |lst t e l=>cases t<;>first|rfl|cases h
 |_=>first|rfl|cases h
theorem LK (N:List Nat) {a:AV} (h:a.cln=true):eZ N a=a:=by cases a<;>first|rfl|cases h
theorem LL (ρ:Nat→Nat) {a:AV} (h:a.cln=true):a.ren ρ=a:=by cases a<;>first|rfl|cases h
theorem LM (ids:List Nat) {a:AV} (h:a.cln=true):a.inS ids=true:=by
 cases a with
 |lst t e l=>cases t<;>first|rfl|cases h
 |_=>first|rfl|cases h
theorem J9 {a:AV} (h:a.cln=true):a.okIn=true:=by
 cases a with
 |lst t e l=>cases t<;>first|rfl|cases h
 |_=>first|rfl|cases h
theorem HS {a:AV} (h:a.cln=true):a.noFrs=true:=by cases a<;>first|rfl|cases h
theorem Cln.told {rows:List (List AV)} (h:Cln rows) (m:Nat):(rowB rows m).map AV.told=rowB rows m:=h.map (fun _=>J8) m
theorem Cln.clr {rows:List (List AV)} (h:Cln rows) (N:List Nat) (m:Nat):(rowB rows m).map (eZ N)=rowB rows m:=h.map (fun _=>LK N) m
theorem Cln.ren {rows:List (List AV)} (h:Cln rows) (ρ:Nat→Nat) (m:Nat):(rowB rows m).map (AV.ren ρ)=rowB rows m:=h.map (fun _=>LL ρ) m
theorem Cln.inS {rows:List (List AV)} (h:Cln rows) (ids:List Nat) (m:Nat):(rowB rows m).all (AV.inS ids)=true:=h.all (fun _=>LM ids) m
theorem Cln.okIn {rows:List (List AV)} (h:Cln rows) (m:Nat):(rowB rows m).all AV.okIn=true:=h.all (fun _=>J9) m
theorem Cln.noFrs {rows:List (List AV)} (h:Cln rows) (m:Nat):(rowB rows m).all AV.noFrs=true:=h.all (fun _=>HS) m
theorem MSX.impY {ι κ:Type} {P:Program} {f:FuncId} {S:List (Nat×List AV)} {args:List AV} {I:ι→Prop} {S' :ι→List (Nat×List AV)} {r:ι→AV} {J:κ→Prop} {j:κ→List (Nat×List AV)} {r' :κ→AV} (h:MSX P f S args I S' r) (g:ι→κ) (p: ∀i,I i→J (g i)) (C: ∀i,j (g i)=S' i) (hr: ∀i,r' (g i)=r i):MSX P f S args J j r' :=
 ⟨h.cb,fun σ w B vs R T U h4 h5 h6 h7=>(h.run σ w B vs R T U h4 h5 h6 h7).mono fun e w' ⟨i,hi,hh⟩=>⟨g i,p i hi,by rw [C,hr];exact hh⟩⟩
theorem MS.toY {κ:Type} {P:Program} {f:FuncId} {S S' :List (Nat×List AV)} {args:List AV} {r:AV} {J:κ→Prop} {g:κ→List (Nat×List AV)} {r' :κ→AV} (h:MS P f S args S' r) (i:κ) (j:J i) (p:g i=S') (hr:r' i=r):MSX P f S args J g r' :=
 ⟨h.cb,fun σ w B vs C I R T U h6 h7=>(h.run σ w B vs C I R T U h6 h7).mono fun e w' hh=>⟨i,j,by rw [p,hr];exact hh⟩⟩
def swY (a b i:Nat):Nat:=if i=a then b else if i=b then a else i
theorem bA {a b:Nat} (i j:Nat) (h:swY a b i=swY a b j):i=j:=by
 unfold swY at h
 repeat' split at h
 all_goals omega
theorem bY {a b:Nat} (g:kd a=kd b) (i:Nat):kd (swY a b i)=kd i:=by
 unfold swY;split
 ·rename_i h;rw [h,g]
 ·split
  ·rename_i h;rw [h,g]
  ·rfl
inductive SN where
 |tx (y:ByteArray)
 |ou (k:List ByteArray) (x:V) (o:ByteArray)
def SN.nd:SN→ND
 | .tx y=>textN y
 | .ou k _ _=>outN k
def SN.cost:SN→Int
 | .tx _=>1
 | .ou _ _ _=>2
def SN.out:SN→ByteArray
 | .tx y=>y
 | .ou _ _ o=>o
def SN.Ok (v:V):SN→Prop
 | .tx _=>True
 | .ou k x o=>getA v x k∧AC Tryz.prog 166 [(vA (x))] (.str o)
def dG:List SN→Int
 | []=>0
 |y::l=>y.cost+dG l
def dD:List SN→ByteArray
 | []=>⟨#[]⟩
 |y::l=>y.out++dD l
theorem C4 (y:SN):1≤y.cost:=by cases y<;>simp [SN.cost]
theorem C5: ∀l:List SN,0≤dG l
 | []=>Int.le_refl _
 |y::l=>by have:=C4 y;have:=C5 l;rw [dG];omega
theorem Nf (d:Bool) (t:ByteArray) (n:Int) (v:V) (y:SN) (hy:y.Ok v) (g:y.cost≤n) (i:n≤10000) (h:t.size+y.out.size≤65536):
  MTK Tryz.prog 113 [2800009] (mbB n (adB d) t) [.np 2000010 0,.np 2800002 0,.agg y.nd.row,(vA (v)),.top] [2800009] (mbB (n-y.cost) adU (t++y.out)) (.int .i64 0):=by
 cases y with
 |tx y=>exact E9 d t y n v (by have:(1:Int)≤n:=g;omega) i h
 |ou k x o=>
  obtain ⟨j,p⟩:=hy;have:=HP d t n v x k o (by have:(2:Int)≤n:=g;omega) i j p h;rw [show n-1-1=n-2 by omega] at this;exact this
abbrev rowsS (l:List SN):List (List AV):=l.map fun y=>y.nd.row
def Oe (l:List SN) (v:V) (x:Nat×Bool×Int×ByteArray):Fr×St:=(ar [(0,.np 2000010 0),(1,.np 2800002 0),(4,.top),(8,.ptr 8 0),(14,.lst .any 16 (rowsS l)),(15,.int .i64 (rowsS l).length),(16,.int .i64 x.1)],⟨ag [(8,(vC (v)),false),(2000010,[.top,.int .i64 x.2.2.1,.top],false),(2800002,[adB x.2.1,.lst (.own 2800009 0) 1 (b6 x.2.2.2)],false)],fun _=>0⟩)
set_option maxHeartbeats 2000000 in
theorem LN (t:ByteArray) (n:Int) (v:V) (l:List SN) (hl: ∀y∈l,y.Ok v) (h1:dG l≤n) (h2:n≤10000) (hn:l≠ []) (h:t.size+(dD l).size≤65536) (hlen:l.length≤1000000):
  MTK Tryz.prog 60 [2800009] (mbB n adF t) [.np 2000010 0,.np 2800002 0,.lst .any 16 (rowsS l),(vA (v)),.top] [2800009] (mbB (n-dG l) adU (t++dD l)) (.int .i64 0):=by
 have I:(rowsS l).length=l.length:=List.length_map _;refine MTK.enter Tryz.func60 jq jr (by rfl) (by rfl) fun E hE=> ?_
 show AK _ _ _ [.c dq] _ _;rw [dq];refine kW ?_;refine aJ (Oe l v) (fun x=>x.1≤l.length∧x.2.2.1-dG (l.drop x.1)=n-dG l∧dG (l.drop x.1)≤x.2.2.1∧x.2.2.1≤n∧x.2.2.2++dD (l.drop x.1)=t++dD l∧x.2.2.2.size+(dD (l.drop x.1)).size≤65536∧(x.1=l.length→x.2.1=false)) (fun x=>l.length-x.1) (0,true,n,t) ⟨gB8 _,rfl,h1,Int.le_refl _,rfl,h,fun e=>absurd (List.eq_nil_of_length_eq_zero e.symm) hn⟩ (Weak.introZ (L:= [(0,.np 2000010 0),(1,.np 2800002 0),(4,.top),(8,.ptr 8 0),(14,.lst .any 16 (rowsS l)),(15,.int .i64 (rowsS l).length),(16,.int .i64 0)]) (BL:= [(8,(vC (v)),false),(2000010,[.top,.int .i64 n,.top],false),(2800002,[adF,.lst (.own 2800009 0) 1 (b6 t)],false)]) ⟨kI,kI,kI,kI,kI,kI,kI,trivial⟩ ⟨kJ,kJ,kJ,trivial⟩ rfl ⟨rfl,rfl,trivial⟩) fun ⟨k,d',n',J⟩ hI=> ?_
 obtain ⟨hk,j,P,U,g,C,R⟩:=hI;dsimp only at hk j P U g C R;refine kW ?_;refine kC (fun hb=> ?_) fun hb=> ?_
 ·have r:k<l.length:=by simpa [I] using hb
  clear hb;obtain ⟨y,hy⟩: ∃y,l[k]? =some y:=⟨_,gA1 r⟩
  have T:l.drop k=y::l.drop (k+1):=by
   rw [gA1 r] at hy;cases hy;exact List.drop_eq_getElem_cons r
  have hyO:=hl y (gA2 hy);rw [T,dG] at j P;rw [T,dD] at g C;have hnn:=C5 (l.drop (k+1));rw [bG] at C;have hN:=Nf d' J n' v y hyO (by omega) (by omega) (by omega);have hat:(rowsS l)[k]? =some y.nd.row:=by rw [gA8,hy];rfl
  have hcp:=C4 y;have hos:=bG J y.out;rw [←ByteArray.append_assoc] at g;generalize hn2:n' - y.cost=p at hN;generalize ht2' :J++y.out=t2 at hN g hos;have i:k+1≤l.length∧p-dG (l.drop (k+1))=n-dG l∧dG (l.drop (k+1))≤p∧p≤n∧t2++dD (l.drop (k+1))=t++dD l∧t2.size+(dD (l.drop (k+1))).size≤65536∧(k+1=l.length→false=false):=⟨r,by omega,by omega,by omega,g,by omega,fun _=>rfl⟩
  cases y with
  |tx y=>
   cases d' with
   |true=>
    refine kW ?_;refine kQ [.c (textN y).row] ?_;refine kW ?_;refine kQ [.k [2000010,2800002] [2800009] (mbB p adU t2) [2800009] (.int .i64 0)] ?_;refine kW ?_;refine kCf ?_;refine kW ?_;exact AK.lp ⟨(k+1,false,p,t2),i,Weak.introZ ⟨kI,kI,kI,kI,kI,kI,kU,trivial⟩ ⟨kJ,kJ,kJ,trivial⟩ rfl ⟨rfl,rfl,trivial⟩,by dsimp only;omega⟩
   |false=>
    refine kW ?_;refine kQ [.c (textN y).row] ?_;refine kW ?_;refine kQ [.k [2000010,2800002] [2800009] (mbB p adU t2) [2800009] (.int .i64 0)] ?_;refine kW ?_;refine kCf ?_;refine kW ?_;exact AK.lp ⟨(k+1,false,p,t2),i,Weak.introZ ⟨kI,kI,kI,kI,kI,kI,kU,trivial⟩ ⟨kJ,kJ,kJ,trivial⟩ rfl ⟨rfl,rfl,trivial⟩,by dsimp only;omega⟩
  |ou ky x o=>
   cases d' with
   |true=>
    refine kW ?_;refine kQ [.c (outN ky).row] ?_;refine kW ?_;refine kQ [.k [2000010,2800002] [2800009] (mbB p adU t2) [2800009] (.int .i64 0)] ?_;refine kW ?_;refine kCf ?_;refine kW ?_;exact AK.lp ⟨(k+1,false,p,t2),i,Weak.introZ ⟨kI,kI,kI,kI,kI,kI,kU,trivial⟩ ⟨kJ,kJ,kJ,trivial⟩ rfl ⟨rfl,rfl,trivial⟩,by dsimp only;omega⟩
   |false=>
    refine kW ?_;refine kQ [.c (outN ky).row] ?_;refine kW ?_;refine kQ [.k [2000010,2800002] [2800009] (mbB p adU t2) [2800009] (.int .i64 0)] ?_;refine kW ?_;refine kCf ?_;refine kW ?_;exact AK.lp ⟨(k+1,false,p,t2),i,Weak.introZ ⟨kI,kI,kI,kI,kI,kI,kU,trivial⟩ ⟨kJ,kJ,kJ,trivial⟩ rfl ⟨rfl,rfl,trivial⟩,by dsimp only;omega⟩
 ·have hge:k=l.length:=by
   have: ¬k<l.length:=by simpa [I] using hb
   omega
  clear hb;have hdf:=R hge;subst hdf;rw [gB6 (by omega)] at j g;rw [dG] at j;rw [dD] at g;refine AK.exit rfl ?_;rw [←g,←j,show J++(⟨#[]⟩:ByteArray)=J from ByteArray.append_empty,Int.sub_zero];refine kW ?_;exact aR ⟨⟨_,rfl,rfl⟩,⟨_,rfl,rfl⟩,⟨_,rfl,rfl⟩,trivial⟩
theorem HT:MTK Tryz.prog 61 [] [] [.np 2000024 0] [] [] .top:=by
 have g:MOp Tryz.prog (.new 123) [] [] [(1900101,[mcA []])] (.np 1900101 0):=Gh rfl;refine MTK.enter Tryz.func61 oR oS (by rfl) (by rfl) fun E i=> ?_
 show AK _ _ _ [.c fS] _ _;rw [fS];refine kW ?_;refine kQ [.s [] [(1900101,[mcA []])] (.np 1900101 0)] ?_;refine kW ?_;refine AK.weak (wN (row:=fun _=>0) (L:= [(2,.top)]) (BL:= []) ⟨⟨_,rfl,.ptop _ _⟩,trivial⟩ trivial rfl rfl trivial) ?_;refine kW ?_;exact aR ⟨⟨_,rfl,rfl⟩,trivial⟩
theorem NQ:((Tryz.prog.info? bT).bind fun i=>i.zero.map fun z=>z.cells)=some #[.pointer none,.slice none 0 0]:=kk
def Fb (i:Nat):Nat:=swY 2000010 19 (swY 2800002 1800002 (swY 2000024 24 i))
theorem wP (i j:Nat) (h:Fb i=Fb j):i=j:=bA _ _ (bA _ _ (bA _ _ h))
theorem AN (i:Nat):kd (Fb i)=kd i:=by unfold Fb;rw [bY (by rfl),bY (by rfl),bY (by rfl)]
theorem NR (v:V) (l:List SN) (hl: ∀y∈l,y.Ok v) (j:dG l≤10000) (hn:l≠ []) (h:(dD l).size≤65536) (hlen:l.length≤1000000):
  MTK Tryz.prog 27 [] [] [.top,.lst .any 16 (rowsS l),(vA (v)),.int .i64 10000] [] [] (.tup [.str (dD l),.int .i64 (10000-dG l),.int .i64 0]):=by
 have T:MOp Tryz.prog (.bld bT) [] [] [(1800002,[adF,.lst .nil 1 []])] (.np 1800002 0):=by
  obtain ⟨p,r,C⟩:=Option.bind_eq_some_iff.1 NQ;obtain ⟨v0,I,J⟩:=Option.map_eq_some_iff.1 C;exact LG rfl rfl r I J
 have P:=HT.ren Fb wP AN;have g:=(LN ⟨#[]⟩ 10000 v l hl j (by decide) hn (by rw [show (⟨#[]⟩:ByteArray).size=0 from rfl];omega) hlen).ren Fb wP AN;have i:=(J0 (⟨#[]⟩++dD l) adU (.inr rfl) (by rw [bG,show (⟨#[]⟩:ByteArray).size=0 from rfl];omega)).ren Fb wP AN;have R:(⟨#[]⟩:ByteArray)++dD l=dD l:=ByteArray.empty_append;rw [R] at g i;refine MTK.enter Tryz.func27 yg yh (by rfl) (by rfl) fun E U=> ?_
 show AK _ _ _ [.c oT] _ _;rw [oT];refine kW ?_;refine kQ [.s [] [(1800002,[adF,.lst .nil 1 []])] (.np 1800002 0)] ?_;refine kW ?_;refine AK.weak (Weak.introZ (L:= [(1,.lst .any 16 (rowsS l)),(6,.ptr 6 0),(11,.ptr 19 0),(12,.np 1800002 0)]) (BL:= [(6,(vC (v)),false),(19,[.top,.int .i64 10000,.top],false),(1800002,[adF,.lst (.own 2800009 0) 1 []],false)]) ⟨kI,kI,kI,kI,trivial⟩ ⟨kJ,⟨_,rfl,.refl _,.refl _,.gone _ rfl,trivial⟩,⟨_,rfl,.refl _,.own _ _ _ _,trivial⟩,trivial⟩ rfl ⟨rfl,trivial⟩) ?_;refine AK.regaE fw0 [.k [] [] [] [] .top,.k [19,1800002] [2800009] [(19,[.top,.int .i64 (10000-dG l),.top]),(1800002,[.np 1800002 0,.lst (.own 2800009 0) 1 (b6 (dD l))])] [2800009] (.int .i64 0)] (ar [(11,.ptr 19 0),(12,.np 1800002 0),(13,.int .i64 0)]) ⟨ag [(19,[.top,.int .i64 (10000-dG l),.top],false),(1800002,[.np 1800002 0,.lst (.own 2800009 0) 1 (b6 (dD l))],false)],fun _=>0⟩ ?_ ?_
 ·(repeat' (first|exact trivial|apply aI))
  all_goals first|exact P|exact g|rfl|exact Weak.introZ (L:= [(11,.ptr 19 0),(12,.np 1800002 0),(13,.int .i64 0)]) ⟨kI,kI,kI,trivial⟩ ⟨kJ,kJ,trivial⟩ rfl ⟨rfl,trivial⟩|skip
 refine kW ?_;refine kCf ?_;refine kW ?_;refine AK.regaE fw0 [.k [1800002] [2800009] [(1800002,[.top,.top])] [] (.str (dD l))] (ar [(8,.str (dD l)),(9,.int .i64 (10000-dG l)),(10,.int .i64 0)]) ⟨ag [],fun _=>0⟩ ?_ ?_
 ·(repeat' (first|exact trivial|apply aI))
  all_goals first|exact i|rfl|exact Weak.introZ (L:= [(8,.str (dD l)),(9,.int .i64 (10000-dG l)),(10,.int .i64 0)]) (BL:= []) ⟨kI,kI,kI,trivial⟩ trivial rfl trivial|skip
 exact aR ⟨⟨_,rfl,rfl⟩,trivial⟩
end
section
set_option maxRecDepth 100000
set_option maxHeartbeats 20000000
def fm:List Nat:= [2000040,2000041,2000043,2000010,2000026,2000083,2000011]
noncomputable def AO:ACode:=bK Tryz.prog fm Tryz.f17
noncomputable def AP:AFn:=⟨1,32,AO,[.tmp 2]⟩
theorem tW:aq Tryz.prog fm Tryz.f17=some AP:=kk
theorem tX:ab Tryz.prog 17=true:=kk
noncomputable def yk:ACode:=bK Tryz.prog fm Tryz.f39
noncomputable def yl:AFn:=⟨1,45,yk,[.tmp 2,.tmp 3,.tmp 4]⟩
theorem rM:aq Tryz.prog fm Tryz.f39=some yl:=kk
theorem rN:ab Tryz.prog 39=true:=kk
noncomputable def tY:ACode:=bK Tryz.prog fm Tryz.f81
noncomputable def tZ:AFn:=⟨1,9,tY,[.tmp 3]⟩
theorem oU:aq Tryz.prog fm Tryz.f81=some tZ:=kk
theorem oV:ab Tryz.prog 81=true:=kk
noncomputable def gP:ACode:=bK Tryz.prog fm Tryz.f80
noncomputable def gQ:AFn:=⟨2,9,gP,[.tmp 4]⟩
theorem fF:aq Tryz.prog fm Tryz.f80=some gQ:=kk
theorem fG:ab Tryz.prog 80=true:=kk
noncomputable def jt:ACode:=bK Tryz.prog fm Tryz.f134
noncomputable def ju:AFn:=⟨2,19,jt,[.tmp 4]⟩
theorem gR:aq Tryz.prog fm Tryz.f134=some ju:=kk
theorem gS:ab Tryz.prog 134=true:=kk
theorem eL:ab Tryz.prog 82=true:=kk
end
section
set_option maxRecDepth 100000
set_option maxHeartbeats 20000000
def AQ:List Nat:= [2000026,2000010,2000028,2000027]
noncomputable def t6:ACode:=bK Tryz.prog AQ Tryz.f19
noncomputable def t7:AFn:=⟨1,9,t6,[.tmp 2]⟩
theorem oW:aq Tryz.prog AQ Tryz.f19=some t7:=kk
theorem oX:ab Tryz.prog 19=true:=kk
noncomputable def eM:ACode:=bK Tryz.prog AQ Tryz.f28
noncomputable def p7:AFn:=⟨2,59,eM,[.tmp 4,.tmp 5,.tmp 6]⟩
theorem l4:aq Tryz.prog AQ Tryz.f28=some p7:=kk
theorem l5:ab Tryz.prog 28=true:=kk
end
section
open Go.RowKit
abbrev Fl:=ByteArray×ByteArray
def aS (l:List Fl):List (List AV):=l.map fun p=> [.str p.1,.str p.2]
theorem bn (l:List Fl):(aS l).length=l.length:=List.length_map _
theorem wQ {l:List Fl} {k:Nat} {p:Fl} (h:l[k]? =some p):(aS l)[k]? =some [.str p.1,.str p.2]:=by simp [aS,h]
theorem Fc (l:List Fl) (p:Fl):aS (l++ [p])=aS l++ [[.str p.1,.str p.2]]:=by simp [aS]
theorem AR (neg:Bool) (g o:Nat):zA Tryz.prog neg 30 (.pointer (some ⟨g,o,none⟩)) (.pointer none) false:=by
 intro w x y i
 have hg:(eqGuard (lD neg) 30 x y (.pointer (some ⟨g,o,none⟩)) (.pointer none)).run Tryz.prog w= .ok () w:=by
  cases x<;>cases y<;>first|(cases i;done)|(cases neg<;>simp [go_sem,eqGuard,lD])
 cases neg
 ·exact ⟨hg,by simp [go_sem,lD]⟩
 ·exact ⟨hg,by simp [go_sem,lD]⟩
abbrev chR (nm ver:ByteArray) (g:V) (p:Fl) (l:List SN):List AV:= [.str nm,.str ver,.int .i64 g.kind,.bool g.b,.int .i64 g.n,.str g.s,.lst .any 6 (aL g.l),.lst .any 7 (am g.m),.lst .any 2 [[.str p.1,.str p.2]],.lst .any 1 [[.lst .any 16 (rowsS l)]],.top]
def crJ (nm ver:ByteArray) (g v:V) (p:Fl) (l:List SN):Bool→Fr×St
 |true=>(ar [(0,.np 2000000 0),(3,.ptr 3 0),(7,.lst .nil 2 []),(18,.lst .any 2 [[.str p.1,.str p.2]]),(19,.int .i64 1),(20,.int .i64 0)],⟨ag [(3,(vC (v)),false),(2000000,chR nm ver g p l,false)],fun _=>0⟩)
 |false=>(ar [(0,.np 2000000 0),(3,.ptr 3 0),(7,.lst .any 2 [[.str p.1,.str (dD l)]]),(18,.lst .any 2 [[.str p.1,.str p.2]]),(19,.int .i64 1),(20,.int .i64 1)],⟨ag [(3,(vC (v)),false),(2000000,chR nm ver g p l,false)],fun _=>0⟩)
theorem C6 (nm ver:ByteArray) (g v:V) (p:Fl) (l:List SN) (r:AC Tryz.prog 19 [.str p.1] (.bool false)) (hl: ∀y∈l,y.Ok v) (i:dG l≤10000) (hn:l≠ []) (h:(dD l).size≤65536) (hlen:l.length≤1000000):
  MTK Tryz.prog 28 [] [(2000000,chR nm ver g p l)] [.np 2000000 0,(vA (v))] [] [(2000000,chR nm ver g p l)] (.tup [.lst .any 2 [[.str p.1,.str (dD l)]],.str ⟨#[]⟩,.int .i64 0]):=by
 have C:=NR v l hl i hn h hlen;refine MTK.enter Tryz.func28 l4 l5 (by rfl) (by rfl) fun E I=> ?_
 show AK _ _ _ [.c eM] _ _;rw [eM];refine kW ?_;refine kP [] ?_ ?_
 ·exact ⟨AR false,trivial⟩
 refine kCf ?_;refine kW ?_;refine aJ (crJ nm ver g v p l) (fun _=>True) (fun j=>match j with|true=>1|false=>0) true trivial (Weak.introZ ⟨kI,kI,kI,kI,kI,kI,trivial⟩ ⟨kJ,kJ,trivial⟩ rfl ⟨rfl,trivial⟩) fun j _=> ?_
 cases j with
 |true=>
  refine kW ?_;refine kCt ?_;refine kW ?_;refine kQ [.c [.str p.1,.str p.2]] ?_;refine kW ?_;refine kQ [.v (.bool false)] ?_;refine kCf ?_;refine kW ?_;refine kQ [.c [.lst .any 16 (rowsS l)],.k [] [] [] [] (.tup [.str (dD l),.int .i64 (10000-dG l),.int .i64 0])] ?_;refine kW ?_;refine kCf ?_;refine kW ?_;refine kQ [] ?_;refine kW ?_;exact AK.lp ⟨false,trivial,Weak.introZ ⟨kI,kI,⟨_,rfl,.one (.any _ _ _)⟩,kI,kI,kU,trivial⟩ ⟨kJ,kJ,trivial⟩ rfl ⟨rfl,trivial⟩,by decide⟩
 |false=>
  refine kW ?_;refine kCf ?_;refine AK.exit rfl ?_;refine kW ?_;exact aR ⟨⟨_,rfl,rfl⟩,⟨_,rfl,rfl⟩,trivial⟩
def sP (w:ByteArray):Bool:= !(decide (w=⟨#[]⟩)||decide (w=⟨#[46]⟩)||decide (w=⟨#[46,46]⟩)|| !dF (fC w ⟨#[95]⟩))
def p8 (s:ByteArray):Bool:=(cj 47 s).all sP&&decide (s.size≤256)
end
end Go.Proofs.YtbgflifmanjpjaaGreatDoor
