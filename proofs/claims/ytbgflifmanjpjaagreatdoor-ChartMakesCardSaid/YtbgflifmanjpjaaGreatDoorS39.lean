/- Part 39. -/
import Derived.Test.YtbgflifmanjpjaaGreatDoorS38
set_option linter.unusedSimpArgs false
set_option linter.unusedVariables false
namespace Go.Proofs.YtbgflifmanjpjaaGreatDoor
open Go.RowKit
def SK (P:Program) (E:Env) (Q:Exit→Fr→St→Prop) (k:List AItem) (l:List GI) (fr:Fr) (st:St):Prop:=
 ∀(mu:List Nat) (g:Array Oper) (i pre:List GI),At P mu g i→gc E.n i=true→i=pre++l→ ∀(G:Gho) (a:Act) (w:World),Conc E G fr st a w→
  wpOps P g (fun e j w' => ∃G' fr' st',Conc E G' fr' st' j w' ∧mkQ Q (KS P E Q k).1 (KS P E Q k).2 e fr' st') (List.range' pre.length l.length) a w
section
variable {P:Program} {mu:List Nat} {E:Env} {G:Gho} {fr fr' fr1 fr2:Fr} {st st' st1 st2:St} {a:Act} {w:World} {Q:Exit→Fr→St→Prop} {k:List AItem}
theorem BP {c:Code} {l:List GI} (h:ag P mu c=some (.regs l)): ∃id g,c= .region id g false∧rq P mu g 0 g.toList=some l:=by
 cases c with
 |region id g j=>
  simp only [ag] at h;split at h
  ·rename_i p hl
   split at h
   ·split at h
    ·rename_i i
     cases h;rw [gA9] at i;have:j=false:=by simpa using i.2
     subst this;exact ⟨id,g,rfl,hl⟩
    ·cases h
   ·split at h<;>cases h
  ·cases h
 |cond x t e=>simp only [ag] at h;split at h<;>cases h
 |seq x y=>simp only [ag] at h;split at h<;>cases h
 |block id b=>simp only [ag] at h;split at h<;>cases h
 |loop b=>simp only [ag] at h;split at h<;>cases h
 |_=>cases h
theorem AK.regs {l:List GI} (h:SK P E Q k l fr st):AK P E Q (.c (.regs l)::k) fr st:=by
 intro r mu c G C w I _ J;obtain ⟨id,j,rfl,g⟩:=BP I;have i:=oK g;have p:gc E.n l=true:=r;refine wp_region ?_;rw [List.range_eq_range',←i.1];exact h mu j l [] i p rfl G C w J
theorem SK.nil (h:AK P E Q k fr st):SK P E Q k [] fr st:=by
 intro mu g j pre _ _ _ G a w i;exact ⟨G,fr,st,i,h⟩
theorem SK.app {r C:List GI} {rs I:List RS} {p:Prop} (hs:iq P r rs fr st=some (I,fr',st',p)) (hp:p) (h:SK P E Q k C fr' st'):SK P E Q k (r++C) fr st:=by
 intro mu J gl pre g hd i G a w hC;obtain ⟨S,hS,q,R,T⟩:=bA hs;have U:S.length=r.length:=by rw [←hS,List.length_map]
 have e:List.range' pre.length (r++C).length=List.range' pre.length S.length++List.range' (pre++r).length C.length:=by
  rw [gA5,gA5,U,List.range'_append_1]
 rw [e];refine tq g hd (fun G' a' w' hC' =>h mu J gl (pre++r) g hd (by rw [i,List.append_assoc]) G' a' w' hC') (fun j x hx=> ?_) ?_ R (T hp) hC
 ·rw [hS] at hx
  rw [i,gC2 (by omega),show pre.length+j-pre.length=j by omega,gC1 (gA0 hx).1];exact hx
 ·rw [←g.1,i,gA5,gA5]
  omega
theorem SK.run {l:List GI} (j:Nat) (rs:List RS) {g:List RS} {p:Prop} (i:p) (h:SK P E Q k (l.drop j) fr' st') (r:iq P (l.take j) rs fr st=some (g,fr',st',p):=by rfl):SK P E Q k l fr st:=by
 have:=SK.app r i h
 rwa [List.take_append_drop] at this
theorem SK.all {l:List GI} (rs:List RS) {g:List RS} {p:Prop} (i:p) (h:AK P E Q k fr' st') (j:iq P l rs fr st=some (g,fr',st',p):=by rfl):SK P E Q k l fr st:=by
 have:=SK.app j i (SK.nil h)
 rwa [List.append_nil] at this
structure MSX {ι:Type} (P:Program) (f:FuncId) (S:List (Nat×List AV)) (args:List AV) (I:ι→Prop) (S' :ι→List (Nat×List AV)) (r:ι→AV):Prop where
 cb:ab P f=true
 run: ∀(σ:Sg) (w:World) (B:Nat→Option Nat) (vs:List Value),Holds σ w→GW w→(∀id g,B id=some g→id∈az S)→(∀id id' g,B id=some g→B id' =some g→id=id')→(∀id g,B id=some g→ ¬nr g)→BoxesAt σ w B S→RelBs σ B vs args→
  Calls P f vs.toArray w fun e w' => ∃i,I i∧ ∃σ' v B',e= .returned v∧ExtK (fun b=> ∃id,B id=some b) σ σ' w.heap.size∧Holds σ' w' ∧BelowK (fun b=> ∃id,B id=some b) w w' ∧(∀id g,B' id=some g→id∈az (S' i))∧(∀id id' g,B' id=some g→B' id' =some g→id=id')∧
   BoxesAt σ' w' B' (S' i)∧RelB σ' B' v (r i)∧(∀id g,B' id=some g→(∃id',B id' =some g)∨w.heap.size≤g)∧ ∀id g g',B id=some g→B' id=some g' →g=g'
theorem Il {ι:Type} {I:ι→Prop} {S' :ι→List (Nat×List AV)} {r:ι→AV} {o:Oper} {K:Act→World→Prop} {Q:Exit→Act→World→Prop} (h:Conc E G fr st a w) {c:Call} {f:Operand} (ho:o.op= .call c) (R:c.callee= .value f) {fid:FuncId} {cap av bs:List AV} {ids:List Nat} {S:List (Nat×List AV)} {us:List Value} {ts:List TypeId} {ys:List Opd} (hfe:a.eval f= .func (.func fid) #[] us.toArray) (hus:RelL G.σ us cap)
  (T:bH P c.args.toList ts=some ys) (hav:evs fr ys=some av) (hbs:ip av=some bs) (hS:oH st.box ids=some S) (p: ∀i,I i→(okS ids (S' i) (r i)&&a8 st.box (ay ids (S' i)))=true) (hMS:MSX P fid S (bs++cap) I S' r) (hn: ∀d,o.dst=some d→d<E.n)
  (hk: ∀i,I i→Then E (match o.dst with|some d=>aJz (fZ (ay ids (S' i)) fr) d (r i)|none=>fZ (ay ids (S' i)) fr) ⟨jl (jk (ay ids (S' i)) st.box) ids (S' i),st.row⟩ K):o.wp P a w K Q:=by
 obtain ⟨U,hd2⟩:=ir hS;have hrel:=(lT h ids T hav hbs).append (cap:=cap) hus;unfold Oper.wp;rw [cB ho R hMS.cb hfe,Oper.upon_enter];have hgw:=E.gwb h.below
 have hat:BoxesAt G.σ w (inB G.B ids) S:=fun id cs hm=>by
  obtain ⟨cs0,k1,k2⟩:=hd2 _ hm;simp only at k1 k2;subst k2;obtain ⟨g,q1,q2,t,vs,q3,q4,q5,q6⟩:=h.box id cs0 false k1;have hid:id∈ids:=by rw [←U];exact List.mem_map.2 ⟨_,hm,rfl⟩
  refine ⟨g,t,vs,by rw [g5 hid];exact q1,q3,?_,fun j v c hv R=> ?_,fun j=>q6 j⟩
  ·rw [List.map_map,show AV.unown∘AV.told=AV.unown from funext dN]
   exact q4
  ·rw [gA8] at R
   cases hc0:cs0[j]? with
   |none=>rw [hc0] at R;cases R
   |some c0=>rw [hc0] at R;cases R;exact (q5 j v c0 (by simpa using hv) hc0).toB
 refine (hMS.run G.σ w (inB G.B ids) _ h.hold hgw (fun id g hg=>by rw [U];exact (aK hg).1) (fun id id' g h1 h2=>h.binj id id' g (aK h1).2 (aK h2).2) (fun id g hg=> ?_) hat hrel).mono fun e w' ⟨i,hi,σ',v,B',he,hx,hh,hb,hdom,hinj,hat',hr,C,hkept⟩=> ?_
 ·obtain ⟨k1,k2⟩:=aK hg
  rw [←U] at k1;obtain ⟨x,hxS,e⟩:=List.mem_map.1 k1;obtain ⟨cs,q1,_⟩:=hd2 x hxS;rw [e] at q1;obtain ⟨g',q2,q3,_⟩:=h.box id cs false q1;rw [k2] at q2;cases q2;exact E.ownGl q3
 ·subst he
  have J:=p i hi;rw [gA9] at J;obtain ⟨p,hfree⟩:=J;obtain ⟨G',hG',hσ,hB⟩:=h.handed hS p hfree hx hh hb hdom hinj hat' C hkept;have hk:=hk i hi;cases hd:o.dst with
  |none=>exact hk G' a w' (by rw [hd];exact hG')
  |some d=>
   refine hk G' (a.put (some d) v) w' ?_;rw [hd];refine hG'.put (hn d hd) (pV hσ hB ?_ hr);unfold okS at p;simp only [gA9] at p;exact p.2
theorem Im {gs:Bool} {o:Oper} {d:Option Nat} {f:Opd} {xs:List Opd} (h:aV P mu gs o=some (.calls d f xs)): ∃c g,o.op= .call c∧c.callee= .value g∧a7 P 0 g=some f∧bH P c.args.toList c.argTypes.toList=some xs∧d=o.dst:=by
 unfold aV at h
 (repeat' split at h)<;>first
  |(cases h;done)
  |(cases h;exact ⟨_,_,by assumption,by assumption,by assumption,by assumption,rfl⟩)
theorem SK.callX {ι:Type} (I:ι→Prop) (S' :ι→List (Nat×List AV)) (r:ι→AV) (ids:List Nat) {d:Option Nat} {f:FuncId} {xs:List Opd} {post:List GI} {av bs:List AV} {S:List (Nat×List AV)} (hM:MSX P f S bs I S' r) (C: ∀i,I i→(okS ids (S' i) (r i)&&a8 st.box (ay ids (S' i)))=true)
  (h: ∀i,I i→SK P E Q k post (match d with|some d=>aJz (fZ (ay ids (S' i)) fr) d (r i)|none=>fZ (ay ids (S' i)) fr) ⟨jl (jk (ay ids (S' i)) st.box) ids (S' i),st.row⟩)
  (J:evs fr xs=some av:=by rfl) (R:ip av=some bs:=by rfl) (hS:oH st.box ids=some S:=by rfl):SK P E Q k (⟨none,.calls d (.k (.fn f [])) xs⟩::post) fr st:=by
 intro mu T gl pre g j p G a w hC;rw [gA3,List.range'_succ];have hj:gl[pre.length]? =some ⟨none,.calls d (.k (.fn f [])) xs⟩:=by rw [p,gC2 (gA4 _),Nat.sub_self];rfl
 refine fV g hj fun gs o ho=> ?_
 obtain ⟨c,fo,h1,h2,h3,h4,h5⟩:=Im ho;obtain ⟨us,U,hus⟩:=bV (hC.ev h3 (show Opd.ev fr (.k (.fn f []))=some (.fn f []) from rfl)).1;subst h5;refine Il (I:=I) (S' :=S') (r:=r) hC h1 h2 U hus h4 J R hS C (by rw [List.append_nil];exact hM) (fun d hd=>dd j hj d hd) fun i hi G' a' w' hC' => ?_
 have:=h i hi mu T gl (pre++ [⟨none,.calls o.dst (.k (.fn f [])) xs⟩]) g j (by rw [p,List.append_assoc];rfl) G' a' w' hC'
 rwa [gA5] at this
def K6 {ι:Type} (gx:AV→Option AV) (res:List ARes) (I:ι→Prop) (S' :ι→List (Nat×List AV)) (r:ι→AV):Exit→Fr→St→Prop:=fun e f s=> ∃i,I i∧Ha gx res (S' i) (r i) e f s
abbrev RQX {ι:Type} (res:List ARes) (I:ι→Prop) (S' :ι→List (Nat×List AV)) (r:ι→AV):Exit→Fr→St→Prop:=K6 AV.argN res I S' r
theorem MSX.enterF {ι:Type} {gx:AV→Option AV} (hgx: ∀{G:Gho} {B' :Nat→Option Nat} {v:Value} {c x:AV},(∀id g,B' id=some g→G.B id=some g)→RelS G v c→gx c=some x→RelB2 G.σ B' v x∧x.isTup=false) {I:ι→Prop} {S' :ι→List (Nat×List AV)} {r:ι→AV} {f:FuncId} {fn:Func} {af:AFn} {args:List AV} {S:List (Nat×List AV)} (hf:P.funcs[f]? =some fn) (haf:ar P mu fn=some af) (hcb:ab P f=true) (hlen:Nat.ble args.length af.n=true) (hokS:eX S args=true)
  (hbody: ∀E:Env,E.n=af.n→AK P E (K6 gx af.res I S' r) [.c af.body] (dC 0 args) ⟨mm S,fun _=>0⟩):MSX P f S args I S' r:=by
 have T:=hokS;unfold eX at T;rw [gA9] at T
 have hbig: ∀id,id∈az S→2000000≤id:=fun id hid=>by
  obtain ⟨x,C,e⟩:=List.mem_map.1 hid;have:=List.all_eq_true.1 T.1 x C;rw [gA9] at this;rw [←e];exact Nat.le_of_ble_eq_true this.1
 refine ⟨hcb,fun σ w B vs hh hg hdom hinj hgl hat hr=>nD hf haf hlen (by unfold eX;rw [gA9];exact ⟨T.1,rfl⟩) hbody hh hg hdom hinj hgl hat hr.1 (fun j v x hv C=>oQ (G:=⟨σ,B,fun _ _=>none,fun _=>none⟩) (hr.2 j v x hv C) (List.all_eq_true.1 T.2 x (gA2 C))) fun E G' f' s' a' w' e e1 e2 e3 e4 p hQ hres=> ?_⟩;obtain ⟨i0,hi0,hQ⟩:=hQ;have he:e= .normal∨e= .ret:=by cases e<;>first|exact .inl rfl|exact .inr rfl|exact hQ.elim
 have hQ' :(∃l,bg gx f' s' af.res=some l∧nC l=r i0)∧uf s' (S' i0):=by rcases he with rfl|rfl<;>exact hQ
 obtain ⟨⟨l,hl,hr1⟩,hbx⟩:=hQ';have J: ∀id g,inB G'.B (az (S' i0)) id=some g→id∈az (S' i0)∧G'.B id=some g:=fun id g hg=>aK hg
 obtain ⟨us,k1,k2,k3⟩:=oS p (R:=fun v x=>RelB2 G'.σ (inB G'.B (az (S' i0))) v x∧x.isTup=false) (fun v c x hc C=>hgx (fun id g hg=>(J id g hg).2) hc C) hres hl
 have hown: ∀id g,inB G'.B (az (S' i0)) id=some g→(∃id',B id' =some g)∨w.heap.size≤g:=fun id g hg=>by
  obtain ⟨q1,q2⟩:=J id g hg;obtain ⟨x,C,e⟩:=List.mem_map.1 q1;obtain ⟨ds,d1,d2⟩:=gf hbx x C;obtain ⟨g2,d3,U,_⟩:=p.box x.1 ds false d1;rw [e,q2] at d3;cases d3;rcases U with U|⟨i,U⟩|U
  ·rw [e1] at U;exact .inr U
  ·rw [e3] at U;exact .inl ⟨i,U⟩
  ·rw [e4] at U;exact U.elim
 have C:=p.ext;have hb:=p.below;have hKe:E.K0=fun b=> ∃id,B id=some b:=by funext b;unfold Env.K0;rw [e3,e4];simp
 rw [hKe,e1,e2] at C;rw [hKe,e1] at hb;refine ⟨he,_,k1,i0,hi0,G'.σ,_,inB G'.B (az (S' i0)),rfl,C,p.hold,hb,fun id g hg=>(J id g hg).1,fun id id' g h1 h2=>p.binj id id' g (J id g h1).2 (J id' g h2).2,fun id cs hm=> ?_,?_,hown,fun id g g' h1 h2=> ?_⟩
 ·obtain ⟨ds,d1,d2⟩:=gf hbx _ hm
  simp only at d1 d2;subst d2;obtain ⟨g2,d3,U,t,vs',d5,d6,d7,d8⟩:=p.box id ds false d1;have hdm:id∈az (S' i0):=List.mem_map.2 ⟨_,hm,rfl⟩;refine ⟨g2,t,vs',by rw [g5 hdm];exact d3,d5,?_,fun j v c hv hc=> ?_,fun j=>d8 j⟩
  ·rw [List.map_map,show AV.unown∘AV.told=AV.unown from funext dN]
   exact d6
  ·rw [gA8] at hc
   cases hc0:ds[j]? with
   |none=>rw [hc0] at hc;cases hc
   |some c0=>rw [hc0] at hc;cases hc;exact (d7 j v c0 (by simpa using hv) hc0).toldB fun id g hg=>(J id g hg).2
 ·rw [←hr1]
  rcases us with _|⟨u,_|⟨v,us⟩⟩
  ·have:l= []:=List.eq_nil_of_length_eq_zero k2.symm
   subst this;exact ⟨[],rfl,rfl,fun j u x hu C=>(k3 j u x hu C).1⟩
  ·obtain ⟨x,rfl⟩:=List.length_eq_one_iff.1 k2.symm
   obtain ⟨q1,q2⟩:=k3 0 u x rfl rfl;show RelB _ _ u x;cases x<;>first|exact q1|cases q2
  ·rcases l with _|⟨x,_|⟨y,l⟩⟩<;>simp at k2
   exact ⟨u::v::us,rfl,by simp [k2],fun j u x hu C=>(k3 j u x hu C).1⟩
 ·have h3:=p.keep id g' (hbig id (hdom id g h1)) (J id g' h2).2
  rw [e3,h1] at h3;exact Option.some.inj h3
theorem MSX.enter {ι:Type} {I:ι→Prop} {S' :ι→List (Nat×List AV)} {r:ι→AV} {f:FuncId} {fn:Func} {i:AFn} {args:List AV} {S:List (Nat×List AV)} (R:P.funcs[f]? =some fn) (p:ar P mu fn=some i) (C:ab P f=true) (hlen:Nat.ble args.length i.n=true) (j:eX S args=true)
  (g: ∀E:Env,E.n=i.n→AK P E (RQX i.res I S' r) [.c i.body] (dC 0 args) ⟨mm S,fun _=>0⟩):MSX P f S args I S' r:=
 MSX.enterF (gx:=AV.argN) (fun T h J=>⟨RelB2.of1 (oR T h J),uj J⟩) R p C hlen j g
theorem MSX.enterE {ι:Type} {I:ι→Prop} {S' :ι→List (Nat×List AV)} {r:ι→AV} {f:FuncId} {fn:Func} {i:AFn} {args:List AV} {S:List (Nat×List AV)} (R:P.funcs[f]? =some fn) (p:ar P mu fn=some i) (C:ab P f=true) (hlen:Nat.ble args.length i.n=true) (j:eX S args=true)
  (g: ∀E:Env,E.n=i.n→AK P E (K6 AV.argE i.res I S' r) [.c i.body] (dC 0 args) ⟨mm S,fun _=>0⟩):MSX P f S args I S' r:=
 MSX.enterF (gx:=AV.argE) (fun T h J=>⟨Al T h J,ui J⟩) R p C hlen j g
theorem MSX.ren {ι:Type} {I:ι→Prop} {S' :ι→List (Nat×List AV)} {r:ι→AV} {f:FuncId} {args:List AV} {S:List (Nat×List AV)} (h:MSX P f S args I S' r) (ρ:Nat→Nat) (hρ: ∀i j,ρ i=ρ j→i=j) (hm: ∀i,kd (ρ i)=kd i):MSX P f (qd ρ S) (args.map (AV.ren ρ)) I (fun i=>qd ρ (S' i)) (fun i=>(r i).renR ρ):=by
 refine ⟨h.cb,fun σ w B vs hh hg C U hgl hat hr=> ?_⟩
 have hK: ∀b,(∃i,B (ρ i)=some b)↔ ∃id,B id=some b:=fun b=>by
  constructor
  ·rintro ⟨i,hi⟩;exact ⟨_,hi⟩
  ·rintro ⟨id,hid⟩
   have:=C id b hid;rw [iz] at this;obtain ⟨i,_,rfl⟩:=List.mem_map.1 this;exact ⟨i,hid⟩
 have hKe:(fun b=> ∃i,B (ρ i)=some b)=fun b=> ∃id,B id=some b:=funext fun b=>propext (hK b)
 refine (h.run σ w (fun i=>B (ρ i)) vs hh hg (fun i g hi=> ?_) (fun i j g h1 h2=>hρ _ _ (U _ _ g h1 h2)) (fun i g hi=>hgl _ g hi) (hat.unren hm fun _=>rfl) ⟨by rw [hr.1,List.length_map],fun j v a hv ha=>(RelB1.ren hm fun _=>rfl).1 (hr.2 j v (a.ren ρ) hv (by rw [gA8,ha];rfl))⟩).mono fun e w' ⟨i0,hi0,σ',v,B1,he,hx,hh',hb,J,R,hat',hr',p,T⟩=> ?_
 ·have:=C _ g hi
  rw [iz] at this;obtain ⟨k,hk,e⟩:=List.mem_map.1 this;rw [hρ _ _ e] at hk;exact hk
 ·rw [hKe] at hx hb
  refine ⟨i0,hi0,σ',v,unren ρ B1,he,hx,hh',hb,fun id g hg=> ?_,fun id id' g h1 h2=> ?_,hat'.ren hm (eY hρ B1),hr'.ren hm (eY hρ B1),fun id g hg=> ?_,fun id g g' h1 h2=> ?_⟩
  ·obtain ⟨i,rfl,hi⟩:=aRz hg
   rw [iz];exact List.mem_map.2 ⟨i,J i g hi,rfl⟩
  ·obtain ⟨i,rfl,hi⟩:=aRz h1
   obtain ⟨j,rfl,hj⟩:=aRz h2;rw [R i j g hi hj]
  ·obtain ⟨i,rfl,hi⟩:=aRz hg
   exact (p i g hi).imp (fun ⟨k,hk⟩=>⟨_,hk⟩) id
  ·obtain ⟨i,rfl,hi⟩:=aRz h2
   exact T i g g' h1 hi
end
end Go.Proofs.YtbgflifmanjpjaaGreatDoor
