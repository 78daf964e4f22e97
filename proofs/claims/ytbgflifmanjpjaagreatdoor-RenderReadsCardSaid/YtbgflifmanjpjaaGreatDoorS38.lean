/- Part 38. -/
import Derived.Test.YtbgflifmanjpjaaGreatDoorS37
import Derived.Shelf.SlSortCmp.NoneTotal
import Derived.Sort.OwnSorted
set_option linter.unusedSimpArgs false
set_option linter.unusedVariables false
namespace Go.Proofs.YtbgflifmanjpjaaGreatDoor
open Go.RowKit Go.Sort Go.Lib Go.Shelf
theorem jv {α β:Type} {f:α→List β} {k:Nat} (g: ∀x,(f x).length=k): ∀(l:List α) (i:Nat) (x:α),l[i]? =some x→((l.flatMap f).drop (i*k)).take k=f x
 |y::l,0,x,h=>by
  simp at h;subst h;rw [Nat.zero_mul,List.drop_zero,List.flatMap_cons,←g y,List.take_left' rfl]
 |y::l,i+1,x,h=>by
  rw [List.flatMap_cons,gC3,Nat.one_mul,Nat.add_comm (i*k) k,←List.drop_drop];rw [show ((f y++l.flatMap f).drop k)=l.flatMap f from List.drop_left' (g y)];exact jv g l i x (by simpa using h)
theorem l6 {α β:Type} {f:α→List β} {k:Nat} (g: ∀x,(f x).length=k): ∀l:List α,(l.flatMap f).length=l.length*k
 | []=>by simp
 |y::l=>by rw [List.flatMap_cons,gA5,g,l6 g l,gA3,gC3,Nat.one_mul,Nat.add_comm]
theorem wT {α:Type} [Inhabited α] {f:α→List Value} {k:Nat} (i: ∀x,(f x).length=k) (d:Array α):(flatK f k d).toList=d.toList.flatMap f:=by
 apply List.ext_getElem?;intro j;by_cases g:j<d.size*k
 ·have p:0<k:=by
   rcases Nat.eq_zero_or_pos k with h|h
   ·rw [h,Nat.mul_zero] at g;omega
   ·exact h
  have r:j / k<d.size:=(Nat.div_lt_iff_lt_mul p).2 g
  have hg:d.toList[j / k]? =some d[j / k]! :=by
   rw [getElem!_pos d (j / k) r,Array.getElem?_toList,Array.getElem?_eq_getElem r]
  have I:=jv i d.toList (j / k) _ hg;have hr:j%k<k:=Nat.mod_lt _ p
  have J:(d.toList.flatMap f)[j]? =(f d[j / k]!)[j%k]? :=by
   rw [←I,List.getElem?_take_of_lt hr,List.getElem?_drop,show j / k*k+j%k=j from Nat.div_add_mod' j k]
  rw [J,Array.getElem?_toList,Array.getElem?_eq_getElem (by rw [size_flatK];exact g)];have C:=get_flatK f k d j g;rw [getElem!_pos _ j (by rw [size_flatK];exact g)] at C;rw [C,gA1 (by rw [i];exact hr),getElem!_pos _ _ (by rw [i];exact hr)]
 ·rw [List.getElem?_eq_none (by rw [Array.length_toList,size_flatK];omega),List.getElem?_eq_none (by rw [l6 i,Array.length_toList];omega)]
theorem Ka {w:World} {g n:Nat} {os:Array Obj} {i:Array Value} {e:TypeId} {fr:Nat×Nat} (F:Array Value) (hb:w.heap[g]? =some (.cells i e fr)):
  (grow (putRow id (Sort.ahead w n) g 0 F) os).heap[g]? =some (.cells (putCells id 0 F i) e fr):=by
 have hg:g<w.heap.size:=(gC0 hb).1;rw [heap_grow_old _ _ (by simpa using hg)];simp [putRow,mapBlock,Sort.ahead,Array.getElem?_modify,hb,onCells]
theorem zg {w:World} {g n:Nat} {os:Array Obj} (F:Array Value):w.grownBy (grow (putRow id (Sort.ahead w n) g 0 F) os) (some g):=by
 refine ⟨rfl,rfl,rfl,by simp,fun k j i=> ?_⟩;rw [heap_grow_old _ _ (by simpa using j)];have:g≠k:=fun e=>i (by rw [e])
 simp [putRow,mapBlock,Sort.ahead,Array.getElem?_modify,this]
theorem Kb (g F:Array Value) (h:F.size≤g.size):(putCells id 0 F g).toList.take F.size=F.toList:=by
 apply List.ext_getElem?;intro j;by_cases i:j<F.size
 ·rw [List.getElem?_take_of_lt i,Array.getElem?_toList]
  simp [putCells,i,show j<g.size by omega]
 ·rw [List.getElem?_take_eq_none (by omega),List.getElem?_eq_none (by simpa using Nat.le_of_not_lt i)]
theorem LO (g F:Array Value) (h:F.size≤g.size) (j:Nat) (p:F.size≤j):(putCells id 0 F g)[j]? =g[j]? :=by
 by_cases i:j<g.size
 ·simp [putCells,i,show¬j<F.size by omega]
 ·rw [Array.getElem?_eq_none (by simp [putCells];omega),Array.getElem?_eq_none (by omega)]
theorem Kc {P:Program} {ρ:Ren} (L:SlLaysF0.n6 P ρ) {size:Nat} (aE: ∀w,(isAgg (ρ.t 24)).run P w= .ok true w) (zE: ∀w,(Go.sizeOf (ρ.t 24)).run P w= .ok size w)
  {α κ:Type} {e:TypeId} {R:List Value→α→Prop} {w:World} {b cap:Nat} {p:Array Value} {l:List α} (hb:w.heap[b]? =some (.cells p e (0,0))) (hcap:l.length≤cap) (hcur:p.size=cap*size) (hR0: ∀i x,l[i]? =some x→R ((p.toList.drop (i*size)).take size) x)
  (h1: ∀cs x,R cs x→ ∀u∈cs,u.oneCell' =true) {c:κ→κ→Int} (hc:CmpOk c) (key:α→κ) (hnd:(l.map key).Nodup) (hlen:l.length<4611686018427387904)
  (g:Nat) (cb:Array Value) (eg: ∀args w,(callFunc g args).run P w= .ok (.enter g args) w)
  (hcall: ∀cs ds x y,x∈l→y∈l→R cs x→R ds y→ ∀W,w.grownBy W (some b)→Calls P g (#[.agg cs.toArray,.agg ds.toArray]++cb) W fun e w' =>e= .returned (.int .i64 (c (key x) (key y)))∧ ∃q os',w' =grow (W.drewN q) os'):
  Calls P (ρ.f 6) #[.slice (some ⟨b,0,none⟩) l.length cap,.func (.func g) #[] cb] w fun e' w' =>e' = .returned (.tuple #[])∧ ∃(l' :List α) (r:Array Value),l'.Perm l∧l'.Pairwise (fun x y=>c (key x) (key y)<0)∧w'.heap[b]? =some (.cells r e (0,0))∧r.size=p.size∧
   (∀i x,l'[i]? =some x→R ((r.toList.drop (i*size)).take size) x)∧(∀j,l.length*size≤j→r[j]? =p[j]?)∧w.grownBy w' (some b):=by
 have hcl:p.toList.length=cap*size:=by simpa using hcur
 by_cases hl0:l.length=0
 ·obtain rfl:=List.length_eq_zero_iff.1 hl0
  refine (AnyF.slices_SortFunc_none L (some ⟨b,0,none⟩) cap _ w).mono ?_;rintro e' w' ⟨rfl,rfl⟩;exact ⟨rfl,[],p,.refl _,.nil,hb,rfl,fun i x U=>by simp at U,fun j _=>rfl,⟨rfl,rfl,rfl,gA4 _,fun _ _ _=>rfl⟩⟩
 have hne:0<l.length:=by omega
 haveI:Inhabited (Fin l.length):=⟨⟨0,hne⟩⟩
 have hbl:b<w.heap.size:=(gC0 hb).1;obtain ⟨xs,hxs⟩: ∃xs,p.toList.take (l.length*size)=xs:=⟨_,rfl⟩
 have hle:l.length*size≤cap*size:=Nat.mul_le_mul_right _ hcap;have hxl:xs.length=l.length*size:=by rw [←hxs,gA7,hcl];omega
 have htake:p.toList.take (l.length*size)=xs:=hxs
 have hin: ∀i:Fin l.length,i.val*size+size≤xs.length:=fun i=>by
  have:=Nat.mul_le_mul_right size (show i.val+1≤l.length from i.isLt);rw [gC3,Nat.one_mul] at this;omega
 have hR: ∀(i:Fin l.length) x,l[i.val]? =some x→R ((xs.drop (i.val*size)).take size) x:=fun i x U=>by
  have h2:=hR0 i.val x U
  have:(xs.drop (i.val*size)).take size=(p.toList.drop (i.val*size)).take size:=by
   rw [←hxs,List.drop_take,List.take_take];congr 1;have:=hin i;omega
  rw [this];exact h2
 obtain ⟨enc,J⟩: ∃enc:Fin l.length→List Value,∀i,enc i=(xs.drop (i.val*size)).take size:=⟨_,fun _=>rfl⟩
 have hk: ∀i,(enc i).length=size:=fun i=>by rw [J,gA7,gA6];have:=hin i;omega
 have hRe: ∀i:Fin l.length,R (enc i) l[i]:=fun i=>by rw [J];exact hR i _ (gA1 i.isLt)
 have C:CmpOk fun i j:Fin l.length=>c (key l[i]) (key l[j]):=hc.by_ (f:=fun i:Fin l.length=>key l[i]) fun i j hij=>by
  have hp:=List.pairwise_iff_getElem.1 hnd;have hz:(l.map key).length=l.length:=List.length_map _;by_cases h:i.val<j.val
  ·exact absurd (by simpa using hij) (hp i.val j.val (by rw [hz];exact i.isLt) (by rw [hz];exact j.isLt) h)
  ·by_cases h' :j.val<i.val
   ·exact absurd (by simpa using hij.symm) (hp j.val i.val (by rw [hz];exact j.isLt) (by rw [hz];exact i.isLt) h')
   ·exact Fin.ext (by omega)
 obtain ⟨d,hd,hdz⟩: ∃d:Array (Fin l.length),d.toList=List.finRange l.length∧d.size=l.length:=⟨(List.finRange l.length).toArray,rfl,by simp⟩
 have hflat:d.toList.flatMap enc=xs:=by
  apply List.ext_getElem?;intro j;by_cases I:j<l.length*size
  ·have k0:0<size:=by
    rcases Nat.eq_zero_or_pos size with h|h
    ·rw [h,Nat.mul_zero] at I;omega
    ·exact h
   have hq:j / size<l.length:=(Nat.div_lt_iff_lt_mul k0).2 I;have hg:d.toList[j / size]? =some ⟨j / size,hq⟩:=by rw [hd];simp [hq]
   have T:=jv hk d.toList (j / size) _ hg;have hr:j%size<size:=Nat.mod_lt _ k0;have e1:j / size*size+j%size=j:=Nat.div_add_mod' j size;have h4:(d.toList.flatMap enc)[j]? =(enc ⟨j / size,hq⟩)[j%size]? :=by rw [←T,List.getElem?_take_of_lt hr,List.getElem?_drop,e1]
   rw [h4,J,List.getElem?_take_of_lt hr,List.getElem?_drop,e1]
  ·rw [List.getElem?_eq_none (by rw [l6 hk,Array.length_toList,hdz];omega),List.getElem?_eq_none (by omega)]
 have hF:(flatK enc size d).toList=xs:=by rw [wT hk,hflat]
 have hH:HoldsK enc size w b 0 d:=by
  intro j I;have hj2:j<xs.length:=by rw [←hF];simpa using I
  refine ⟨?_,by simp [World.frozen?,hb]⟩;have T:(p.toList.take (l.length*size))[j]? =xs[j]? :=by rw [htake]
  rw [List.getElem?_take_of_lt (by omega)] at T;simp only [World.cell?,hb,Nat.zero_add];simp only [Option.isSome_none,Bool.false_eq_true,if_false];rw [←Array.getElem?_toList,T,←hF,Array.getElem?_toList,getElem!_pos _ j I,Array.getElem?_eq_getElem I];rfl
 have hcmp:CmpLays P g cb enc size (fun i j:Fin l.length=>c (key l[i]) (key l[j])) b 0 d.size w:=fun m os dk _ x y=>
  hcall (enc x) (enc y) l[x] l[y] (List.getElem_mem _) (List.getElem_mem _) (hRe x) (hRe y) _ (zg (n:=m) (os:=os) (flatK enc size dk))
 have hsz:d.size<4611686018427387904:=by rw [hdz];exact hlen
 have hS:=AnyQ.slices_SortFunc_total L size aE zE enc hk (fun i=>h1 _ _ (hRe i)) _ C.swo g cb b 0 cap d w eg hcmp hH hbl hsz C.tot;rw [hdz] at hS;refine hS.mono ?_;rintro e' w' ⟨rfl,n,os,rfl⟩;generalize hts:d.toList.mergeSort (fun x y=> !(ltOf fun i j:Fin l.length=>c (key l[i]) (key l[j])) y x)=ts;have hp:ts.Perm (List.finRange l.length):=by rw [←hts,←hd];exact List.mergeSort_perm _ _
 have htl:ts.length=l.length:=by rw [hp.length_eq];simp
 have hso:ts.Pairwise fun i j=>c (key l[i]) (key l[j])<0:=by
  have hs:=List.pairwise_mergeSort (le:=fun x y=> !(ltOf fun i j:Fin l.length=>c (key l[i]) (key l[j])) y x) (fun x y z h k=>by
   simp only [Bool.not_eq_true'] at h k⊢;exact C.swo.ntrans z y x k h) (fun x y=>by
   cases h:ltOf (fun i j:Fin l.length=>c (key l[i]) (key l[j])) y x with
   |false=>rfl
   |true=>
    cases k:ltOf (fun i j:Fin l.length=>c (key l[i]) (key l[j])) x y with
    |false=>rfl
    |true=>
     have:=C.swo.trans _ _ _ h k;rw [C.swo.irrefl] at this;cases this) d.toList
  rw [hts] at hs;have hnd2:ts.Nodup:=hp.nodup_iff.2 (List.nodup_finRange _);refine (hs.and hnd2).imp fun {i j} h=> ?_
  have T: ¬c (key l[j]) (key l[i])<0:=by
   have:=h.1;simp only [Bool.not_eq_true'] at this;exact gB4 this
  by_cases e0:c (key l[i]) (key l[j])=0
  ·exact absurd ((C.eq i j).1 e0) h.2
  ·by_cases e1:0<c (key l[i]) (key l[j])
   ·exact absurd ((hc.anti _ _).1 e1) T
   ·omega
 have hz:(flatK enc size ts.toArray).size=l.length*size:=by rw [size_flatK];simp [htl]
 have hzc:(flatK enc size ts.toArray).size≤p.size:=by rw [hz,hcur];exact hle
 refine ⟨rfl,ts.map (fun i=>l[i]),_,?_,?_,Ka _ hb,by simp [putCells],fun i x U=> ?_,fun j I=>LO _ _ hzc j (by rw [hz];exact I),zg _⟩
 ·have T:=hp.map (fun i:Fin l.length=>l[i])
  rwa [show (List.finRange l.length).map (fun i:Fin l.length=>l[i])=l from List.ext_getElem (by simp) (fun i h h' =>by simp)] at T
 ·exact List.pairwise_map.2 hso
 ·rw [gA8] at U
  cases I:ts[i]? with
  |none=>rw [I] at U;cases U
  |some j=>
   rw [I] at U;cases U;have T:=Kb p (flatK enc size ts.toArray) hzc;rw [hz,wT hk] at T;have hil:i<ts.length:=(gA0 I).1
   have h4:i*size+size≤l.length*size:=by
    have:=Nat.mul_le_mul_right size (show i+1≤l.length by omega);rw [gC3,Nat.one_mul] at this;exact this
   have h5:(((putCells id 0 (flatK enc size ts.toArray) p).toList).drop (i*size)).take size=((ts.flatMap enc).drop (i*size)).take size:=by
    rw [←T,List.drop_take,List.take_take];congr 1;omega
   rw [h5,jv hk ts i j I];exact hRe j
theorem Fe {α κ:Type} {c:κ→κ→Int} (i:CmpOk c) (key:α→κ) {l g:List α} (j:l.Perm g) (p:l.Pairwise fun x y=>c (key x) (key y)<0) (r:g.Pairwise fun x y=>c (key x) (key y)<0):l=g:=
 j.eq_of_pairwise (fun a b _ _ h k=>by
  have C:=(i.anti (key b) (key a)).2 h;omega) p r
theorem Da {α:Type} {σ:Sg} {enc:α→List AV} {size:Nat} (r: ∀x,(enc x).length=size): ∀{l:List α} {ys:List Value},ys.length=l.length*size→(∀i x,l[i]? =some x→RelL σ ((ys.drop (i*size)).take size) (enc x))→RelL σ ys (l.map enc).flatten
 | [],ys,hl,_=>by
  have:ys= []:=List.eq_nil_of_length_eq_zero (by simpa using hl);subst this;exact .nil
 |x::l,ys,hl,h=>by
  have j:=h 0 x rfl;rw [Nat.zero_mul,List.drop_zero] at j;have g:(ys.drop size).length=l.length*size:=by rw [gA6,hl,gA3,gC3];omega
  have C:=Da r (l:=l) (ys:=ys.drop size) g fun i y hy=>by
   have:=h (i+1) y (by simpa using hy);rw [List.drop_drop];rw [show size+i*size=(i+1)*size by rw [gC3];omega];exact this
  have p:=j.append C;rw [List.take_append_drop] at p;simpa using p
theorem HV {α:Type} {enc:α→List AV} {size:Nat} (g: ∀x,(enc x).length=size) {l:List α} {T:List AV} {i:Nat} {x:α} (h:l[i]? =some x):(((l.map enc).flatten++T).drop (i*size)).take size=enc x:=by
 have e:(l.map enc).flatten=l.flatMap enc:=rfl;have hi:=(gA0 h).1;have hlen:=l6 g l
 have j:i*size+size≤l.length*size:=by
  have:=Nat.mul_le_mul_right size (show i+1≤l.length by omega);rw [gC3,Nat.one_mul] at this;exact this
 rw [e,List.drop_append_of_le_length (by omega),List.take_append_of_le_length (by rw [gA6];omega)];exact jv g l i x h
def AV.clean:AV→Bool
 | .int _ _| .bool _| .str _| .ro _| .fn _ _| .raw _| .top=>true
 | .lst .any _ _=>true
 |_=>false
theorem Db {a:AV} (h:a.clean=true):a.unown=a:=by
 cases a<;>first|rfl|(rename_i t _ _;cases t<;>first|rfl|cases h)|cases h
theorem HW {a:AV} (h:a.clean=true) (B:Nat→Option Nat) (v:Value):TagB B v a:=by
 cases a<;>first|trivial|cases h
theorem LP {P:Program} {ρ:Ren} (L:SlLaysF0.n6 P ρ) {size:Nat} (hcb:ab P (ρ.f 6)=true) (aE: ∀w,(isAgg (ρ.t 24)).run P w= .ok true w) (zE: ∀w,(Go.sizeOf (ρ.t 24)).run P w= .ok size w)
  {α κ:Type} (enc:α→List AV) (hk: ∀x,(enc x).length=size) (hcl: ∀x,∀c∈enc x,c.clean=true) {c:κ→κ→Int} (hc:CmpOk c) (key:α→κ) {l l' :List α} (hnd:(l.map key).Nodup) (hlen:l.length<4611686018427387904) (hp:l'.Perm l) (hs:l'.Pairwise fun x y=>c (key x) (key y)<0)
  (F:FuncId) (eg: ∀args w,(callFunc F args).run P w= .ok (.enter F args) w)
  (hcall: ∀σ cs ds x y,x∈l→y∈l→RelL σ cs (enc x)→RelL σ ds (enc y)→ ∀W,GW W→Calls P F #[.agg cs.toArray,.agg ds.toArray] W fun e w' =>e= .returned (.int .i64 (c (key x) (key y)))∧ ∃q os',w' =grow (W.drewN q) os')
  (cap m:Nat) (hcap:l.length≤cap) (hz:((l.map enc).flatten++List.replicate m AV.top).length=cap*size):
  MS P (ρ.f 6) [(2000000,(l.map enc).flatten++List.replicate m AV.top)] [.sli 2000000 size l.length cap,.fn F []] [(2000000,(l'.map enc).flatten++List.replicate m AV.top)] (.tup []):=by
 refine ⟨hcb,fun σ w B vs hh hg hdom hinj hgl hat hr=> ?_⟩;obtain ⟨g,t,vs0,hB,C,hrel,htag,J⟩:=hat 2000000 _ (List.mem_singleton.2 rfl);have C:=C.cells rfl
 obtain ⟨v1,v2,rfl⟩: ∃a b,vs= [a,b]:=by
  have:=hr.1;rcases vs with _|⟨a,_|⟨b,_|⟨_,_⟩⟩⟩<;>simp at this
  exact ⟨a,b,rfl⟩
 obtain ⟨_,g',hv1,hg'⟩:TagB B v1 (.sli 2000000 size l.length cap):=hr.2 0 v1 _ rfl rfl;have hgg:=hg' g hB;subst hgg;subst hv1;have hv2:Rel1 σ v2 (.fn F []):=hr.2 1 v2 _ rfl rfl;obtain ⟨us,hv2,hus⟩:=cg hv2;have hus:us= []:=List.eq_nil_of_length_eq_zero hus.1;subst hus hv2
 have hun: ∀(l:List α),((l.map enc).flatten++List.replicate m AV.top).map AV.unown=(l.map enc).flatten++List.replicate m AV.top:=fun l=>by
  rw [show ((l.map enc).flatten++List.replicate m AV.top).map AV.unown=((l.map enc).flatten++List.replicate m AV.top).map id from List.map_congr_left fun a I=> ?_,List.map_id];rcases gB5 I with I|I
  ·obtain ⟨r,hr,har⟩:=List.mem_flatten.1 I
   obtain ⟨x,_,rfl⟩:=List.mem_map.1 hr;exact Db (hcl x a har)
  ·rw [(List.mem_replicate.1 I).2];rfl
 rw [hun] at hrel;have hsz:vs0.size=cap*size:=by have:=hrel.1;rw [hz] at this;simpa using this
 have hfl:(l.map enc).flatten.length=l.length*size:=l6 hk l;refine (Kc L (R:=fun cs x=>RelL σ cs (enc x)) aE zE C hcap hsz (fun i x hx=> ?_) (fun cs x h=>h.one) hc key hnd hlen F #[] eg (fun cs ds x y hx hy T h2 W hW=> ?_)).mono ?_
 ·have T:=(hrel.drop (i*size)).take size
  rw [HV hk hx] at T;exact T
 ·refine hcall σ cs ds x y hx hy T h2 W (hg.belowK (K:=fun b=>b=g) (fun b e=> ?_) (kj hW rfl))
  rw [e];exact hgl 2000000 g hB
 rintro e' w' ⟨rfl,U,p,hp2,hs2,hb2,hz2,hR2,hrest,hgr⟩;have hl2:U=l' :=Fe hc key (hp2.trans hp.symm) hs2 hs;subst hl2;have hll:U.length=l.length:=hp2.length_eq
 have hrel2:RelL σ p.toList ((U.map enc).flatten++List.replicate m AV.top):=by
  have hcz:p.toList.length=cap*size:=by simpa [hsz] using hz2
  have hle:U.length*size≤cap*size:=Nat.mul_le_mul_right _ (by omega)
  have T:RelL σ (p.toList.take (U.length*size)) (U.map enc).flatten:=Da hk (by rw [gA7];omega) fun i x hx=>by
   have h2:=hR2 i x hx;have hi:=(gA0 hx).1
   have hle:i*size+size≤U.length*size:=by
    have:=Nat.mul_le_mul_right size (show i+1≤U.length by omega);rw [gC3,Nat.one_mul] at this;exact this
   rw [List.drop_take,List.take_take,show min size (U.length*size-i*size)=size by omega];exact h2
  have h3:RelL σ (p.toList.drop (U.length*size)) (List.replicate m AV.top):=by
   have hd:=hrel.drop (l.length*size);rw [←hfl,List.drop_left] at hd;refine ⟨by rw [←hd.1];simp [hfl,hz2,hll],fun j v a hv I=> ?_⟩;rw [List.getElem?_drop,Array.getElem?_toList,hrest _ (by rw [hll];omega)] at hv;refine hd.2 j v a ?_ I;rw [List.getElem?_drop,Array.getElem?_toList,hfl,←hll];exact hv
  have h4:=T.append h3;rw [List.take_append_drop] at h4;exact h4
 have hne: ∀b o v,σ b o=some v→b≠g:=by
  rintro b o v hv rfl;rw [J o] at hv;cases hv
 refine ⟨σ,.tuple #[],B,rfl,⟨.refl σ,fun _ _ _ _=>rfl⟩,fun b o v hv=> ?_,kj hgr ⟨2000000,hB⟩,fun id g' hB' => ?_,hinj,fun id cs hm=> ?_,⟨[],rfl,rfl,fun j u x hu=>by simp at hu⟩,fun id g' hB' => .inl ⟨id,hB'⟩,fun id g' g'' T h2=>by rw [T] at h2;exact Option.some.inj h2⟩
 ·have T:=hh b o v hv
  have hlt:=World.block_lt_of_cell? w _ T;exact (World.cell?_of_block (w:=w) (a:=⟨b,o,none⟩) (hgr.block b hlt fun e=>hne b o v hv (by cases e;rfl))).trans T
 ·exact hdom id g' hB'
 ·rw [List.mem_singleton] at hm
  cases hm;refine ⟨g,t,p,hB,.mk rfl (Bl rfl) hb2,by rw [hun];exact hrel2,fun j v a hv I=>HW ?_ _ _,J⟩;have I:=gA2 I;rcases gB5 I with I|I
  ·obtain ⟨r,hr,har⟩:=List.mem_flatten.1 I
   obtain ⟨x,_,rfl⟩:=List.mem_map.1 hr;exact hcl x a har
  ·rw [(List.mem_replicate.1 I).2];rfl
theorem LQ (y t n x:ByteArray):AC Tryz.prog 81 [.agg [.str y,.str t],.ro [.str n,.str x]] (.bool (decide (y=n))):=by
 refine kE Tryz.func81 oU oV fun E g=> ?_
 refine kW ?_;refine aR ⟨_,rfl,?_⟩;rfl
def atF (n:ByteArray):List Fl→Nat→Int
 | [],_=> -1
 |p::l,k=>if p.1=n then k else atF n l (k+1)
theorem Gj (n:ByteArray): ∀(l:List Fl) (k:Nat),decide (0≤atF n l k)=l.any fun g=>decide (g.1=n)
 | [],k=>by rw [atF];rfl
 |p::l,k=>by
  rw [atF,List.any_cons];by_cases h:p.1=n
  ·rw [if_pos h,decide_eq_true h,Bool.true_or]
   exact decide_eq_true (by omega)
  ·rw [if_neg h,decide_eq_false h,Bool.false_or,Gj n l (k+1)]
theorem Kd {n:ByteArray} {l:List Fl} {k:Nat} {p:Fl} (h:l[k]? =some p):atF n (l.drop k) k=if p.1=n then (k:Int) else atF n (l.drop (k+1)) (k+1):=by
 obtain ⟨g,e⟩:=gA0 h;rw [List.drop_eq_getElem_cons g,e,atF]
theorem Ke (l:List Fl) (n x:ByteArray) (hl:l.length≤4398046511104):AC Tryz.prog 134 [.lst .any 2 (aS l),.fn 81 [.ro [.str n,.str x]]] (.int .i64 (atF n l 0)):=by
 refine kE Tryz.func134 gR gS fun E C=> ?_
 refine kW ?_;refine aJ (fun k:Nat=>(ar [(0,.lst .any 2 (aS l)),(1,.fn 81 [.ro [.str n,.str x]]),(7,.int .i64 (aS l).length),(8,.int .i64 k)],⟨ag [],fun _=>0⟩)) (fun k=>k≤l.length∧atF n l 0=atF n (l.drop k) k) (fun k=>l.length-k) 0 ⟨gB8 _,rfl⟩ (wO ⟨kI,kI,kI,kI,trivial⟩ trivial rfl rfl) fun k i=> ?_
 obtain ⟨i,hr⟩:=i;refine kW ?_;refine kC (fun hb=> ?_) fun hb=> ?_
 ·have g:k<l.length:=by simpa [bn] using hb
  obtain ⟨p,hg⟩: ∃x,l[k]? =some x:=⟨_,gA1 g⟩
  have I:=LQ p.1 p.2 n x;rw [Kd hg] at hr;have j:=bn l;clear hb;refine kW ?_;refine kP [.c [.str p.1,.str p.2],.v (.bool (decide (p.1=n)))] ?_ ?_
  ·((repeat' apply aI)<;>first|exact kD|(intro r;refine ⟨?_,kG⟩;(repeat' apply aI)<;>first|exact kD|skip)|skip)
   exact wQ hg
  refine kC (fun hb=> ?_) fun hb=> ?_
  ·rw [if_pos (gB3 hb)] at hr
   refine kW ?_;refine aR ⟨_,rfl,?_⟩;exact congrArg (AV.int _) hr.symm
  ·rw [if_neg (gB4 hb)] at hr
   refine kW ?_;exact AK.lp ⟨k+1,⟨by omega,hr⟩,wO ⟨kI,kI,kI,kU,trivial⟩ trivial rfl rfl,by omega⟩
 ·have g:k=l.length:=by
   have:l.length≤k:=by simpa [bn] using hb
   omega
  subst g;rw [List.drop_length,atF] at hr;refine AK.exit rfl ?_;refine kW ?_;refine aR ⟨_,rfl,?_⟩;rw [hr];rfl
theorem HY (l:List Fl) (n x:ByteArray) (hl:l.length≤4398046511104):AC Tryz.prog 80 [.lst .any 2 (aS l),.fn 81 [.ro [.str n,.str x]]] (.bool (l.any fun g=>decide (g.1=n))):=by
 have h:=Ke l n x hl;rw [←Gj n l 0];refine kE Tryz.func80 fF fG fun E i=> ?_
 refine kW ?_;refine kQ [.v (.int .i64 (atF n l 0))] ?_;refine kW ?_;refine aR ⟨_,rfl,?_⟩;rfl
theorem Nh (w:World) (A B:Obj):(w.alloc A).alloc B=grow (w.drewN 0) #[A,B]:=by
 have h:(w.heap.push A).push B=w.heap++ #[A,B]:=by
  apply Array.ext';simp
 unfold grow World.drewN World.alloc;simp only;rw [←h];rfl
set_option maxRecDepth 100000 in
theorem HZ (a b c d:ByteArray) (w:World):
  Calls Tryz.prog 84 #[.agg #[.string a,.string b],.agg #[.string c,.string d]] w fun e w' =>e= .returned (.int .i64 (bW a c))∧ ∃q os,w' =grow (w.drewN q) os:=by
 obtain ⟨R,g⟩: ∃R,bW a c=R:=⟨_,rfl⟩
 have i:=Lib.hid fun w=>CH a c w
 rw [g] at i⊢;clear g
 go_enter Tryz.func84,Tryz.ntmps84
 go_wp2_with (go_at_call 85;refine (i.out _).mono ?_;rintro j w1 ⟨rfl,rfl⟩)
 go_ret
 exact ⟨rfl,0,_,Nh w _ _⟩
def Kf (p:Fl):List AV:= [.str p.1,.str p.2]
theorem Ff (p:Fl): ∀c∈Kf p,c.clean=true:=by
 intro c g;simp [Kf] at g;rcases g with rfl|rfl<;>rfl
theorem Dc (l:List Fl):RowsOk 2 (aS l):=⟨by omega,fun c g=>by
 obtain ⟨o,_,rfl⟩:=List.mem_map.1 g;exact ⟨rfl,rfl⟩⟩
theorem Kg {σ:Sg} {cs:List Value} {p:Fl} (h:RelL σ cs (Kf p)):cs.toArray= #[.string p.1,.string p.2]:=by
 have hl:=h.1;rcases cs with _|⟨g,_|⟨i,_|⟨_,_⟩⟩⟩<;>simp [Kf] at hl
 have j:Rel1 σ g (.str p.1):=h.2 0 _ _ rfl rfl;have r:Rel1 σ i (.str p.2):=h.2 1 _ _ rfl rfl;cases j;cases r;rfl
theorem H0 (l:List Fl) (g:(l.map (·.1)).Nodup) (hlen:l.length≤1000000) (cap m:Nat) (i:l.length≤cap) (j:((aS l).flatten++List.replicate m AV.top).length=cap*2):
  MS Tryz.prog 83 [(2000000,(aS l).flatten++List.replicate m AV.top)] [.sli 2000000 2 l.length cap,.fn 84 []] [(2000000,(aS (iv l)).flatten++List.replicate m AV.top)] (.tup []):=
 LP Tryz.sortFl (by kernel_rfl) Tryz.isAgg52 Tryz.sizeOf52 Kf (fun _=>rfl) Ff Lu (fun p:Fl=>p.1) g (by omega) (wR l) ((C8 l g).imp fun {a b} h=>eE.2 h) _ (enters_of Tryz.func84 (by kernel_rfl) rfl) (fun σ cs ds x y _ _ r C W I=>by
  rw [Kg r,Kg C];exact HZ _ _ _ _ W) cap m i j
def Fg (i:Nat):Nat:=if i=2000000 then 1000001 else if i=1000001 then 2000000 else i
theorem Kh (i j:Nat) (h:Fg i=Fg j):i=j:=by
 unfold Fg at h
 repeat' split at h
 all_goals omega
theorem LR (i:Nat):kd (Fg i)=kd i:=by
 unfold Fg
 repeat' split
 all_goals first|(subst_vars;rfl)|rfl
theorem zh {g:AV→AV} (i: ∀s,g (.str s)= .str s) (j:g .top= .top) (l:List Fl) (m:Nat):((aS l).flatten++List.replicate m AV.top).map g=(aS l).flatten++List.replicate m AV.top:=by
 rw [List.map_append,List.map_replicate,j];congr 1
 induction l with
 |nil=>rfl
 |cons p l ih=>
  show ([AV.str p.1,AV.str p.2]++(aS l).flatten).map g= [AV.str p.1,AV.str p.2]++(aS l).flatten;rw [List.map_append,ih];show [g (.str p.1),g (.str p.2)]++_=_;rw [i,i]
theorem zi {g:AV→Bool} (C: ∀s,g (.str s)=true) (I:g .top=true) (l:List Fl) (m:Nat):((aS l).flatten++List.replicate m AV.top).all g=true:=by
 rw [List.all_eq_true];intro c i;rcases gB5 i with i|i
 ·obtain ⟨r,hr,j⟩:=List.mem_flatten.1 i
  obtain ⟨p,_,rfl⟩:=List.mem_map.1 hr;simp at j;rcases j with rfl|rfl<;>exact C _
 ·rw [(List.mem_replicate.1 i).2]
  exact I
theorem H5 (l:List Fl) (j:(l.map (·.1)).Nodup) (hlen:l.length≤1000000) (cap m:Nat) (i:l.length≤cap) (p:((aS l).flatten++List.replicate m AV.top).length=cap*2):
  MS Tryz.prog 83 [(1000001,((aS l).flatten++List.replicate m AV.top).map AV.told)] [.sli 1000001 2 l.length cap,.fn 84 []] [(1000001,(aS (iv l)).flatten++List.replicate m AV.top)] (.tup []):=by
 have h:=(H0 l j hlen cap m i p).ren Fg Kh LR;unfold qH at h;simp only [List.map_cons,List.map_nil,zh (g:=AV.ren Fg) (fun _=>rfl) rfl] at h;rw [zh (fun _=>rfl) rfl];exact h
theorem Dd (f:AV) (r:f.arg=some f):AC Tryz.prog 83 [.lst .any 2 [],f] (.tup []):=by
 refine ⟨by kernel_rfl,fun σ w vs g hr hg=> ?_⟩
 obtain ⟨v1,v2,rfl⟩: ∃a b,vs= [a,b]:=by
  have:=hr.1;rcases vs with _|⟨a,_|⟨b,_|⟨_,_⟩⟩⟩<;>simp at this
  exact ⟨a,b,rfl⟩
 have i:Rel1 σ v1 (.lst .any 2 []):=hr.2 0 v1 _ rfl rfl;cases i with
 |lst t esz l A n cap b o f hn hlen hA hsz C hr ht=>
  subst hn;refine (AnyF.slices_SortFunc_none Tryz.sortFl A cap v2 w).mono ?_;rintro e w' ⟨rfl,rfl⟩;exact ⟨σ,.tuple #[],rfl,.refl _ _,g,.refl _ _,[],rfl,rfl,fun j u x p=>by simp at p⟩
theorem Ki (l:List Fl) (m:Nat) (i:Nat→Option (List AV×Bool)):(okS [1000001] [(1000001,(aS l).flatten++List.replicate m AV.top)] (.tup [])&&bf i (au [1000001] [(1000001,(aS l).flatten++List.replicate m AV.top)]))=true:=by
 have h:=zi (g:=AV.inS [1000001]) (fun _=>rfl) rfl l m;unfold okS;show (((true&&true)&&((((aS l).flatten++List.replicate m AV.top).all (AV.inS [1000001]))&&true)&&true)&&true)=true;rw [h];rfl
set_option maxHeartbeats 4000000 in
theorem LS (l:List Fl) (hl:l.length≤4398046511103) (hz:l.length≤32→ ∀p∈l,p.1.size≤1000000):AC Tryz.prog 39 [.lst .any 2 (aS l)] (.tup [.lst .any 2 (aS (bp l).1),.str (bp l).2.1,.int .i64 (bp l).2.2]):=by
 generalize j:bp l=R;have hRe:(bp l).2.2=0→l.length≤32∧(l.map (·.1)).Nodup∧(∀f∈l,p8 f.1=true∧f.2.size≤65536)∧(bp l).1=iv l∧(eN [] l).2=0:=ze;unfold bp at j;refine kE Tryz.func39 rM rN fun E hE=> ?_
 refine kW ?_;refine kC (fun hb=> ?_) fun hb=> ?_
 ·have r:32<l.length:=by
   have:(l.length:Int)>32:=by simpa [bn] using hb
   omega
  rw [if_pos r] at j;subst j;refine kW ?_;refine aR ⟨_,rfl,?_⟩;rfl
 have r: ¬32<l.length:=by
  have: ¬(l.length:Int)>32:=by simpa [bn] using hb
  omega
 rw [if_neg r] at j;clear hb;refine kW ?_;refine aJ (fun k:Nat=>(ar [(0,.lst .any 2 (aS l)),(10,.lst .any 2 (aS l)),(11,.int .i64 (aS l).length),(12,.int .i64 k)],⟨ag [],fun _=>0⟩)) (fun k=>k≤l.length∧eN [] l=eN (l.take k) (l.drop k)) (fun k=>l.length-k) 0 ⟨gB8 _,rfl⟩ (wO ⟨kI,kI,kI,kI,trivial⟩ trivial rfl rfl) fun k hk=> ?_
 obtain ⟨hk,C⟩:=hk;have hll:=bn l;refine kW ?_;refine kC (fun hb=> ?_) fun hb=> ?_
 ·have I:k<l.length:=by simpa [bn] using hb
  obtain ⟨p,hg⟩: ∃x,l[k]? =some x:=⟨_,gA1 I⟩
  have hnm:=Ng p.1 (hz (by omega) p (gA2 hg));have i:=HU hg;have hh:=HY (l.take k) p.1 p.2 (by rw [gA7];omega)
  have hh:AC Tryz.prog 80 [.lst .any 2 (List.drop (Int.toNat 0) (List.take (k:Int).toNat (aS l))),.fn 81 [.ro [.str p.1,.str p.2]]] (.bool ((l.take k).any fun g=>decide (g.1=p.1))):=by
   rw [show List.drop (Int.toNat 0) (List.take (k:Int).toNat (aS l))=aS (l.take k) by
    rw [Int.toNat_natCast];unfold aS;rw [List.map_take];rfl]
   exact hh
  rw [←C] at i;clear hb;refine kW ?_;refine kP [.c [.str p.1,.str p.2]] ?_ ?_
  ·((repeat' apply aI)<;>first|exact kD|(intro hgd;refine ⟨?_,kG⟩;(repeat' apply aI)<;>first|exact kD|skip)|skip)
   all_goals exact wQ hg
  refine kW ?_;refine kQ [.v (.bool (p8 p.1))] ?_;cases hn:p8 p.1 with
  |false=>
   have J:gT (l.take k) p=22:=by unfold gT;rw [if_pos hn]
   rw [J,if_pos (by decide)] at i;rw [i,if_pos (by dsimp only;decide)] at j;subst j;refine kCt ?_;refine kW ?_;refine aR ⟨_,rfl,?_⟩;rfl
  |true=>
   refine kCf ?_;refine kW ?_;refine kC (fun hb=> ?_) fun hb=> ?_
   ·have hs:65536<p.2.size:=by
     have:(p.2.size:Int)>65536:=by simpa using hb
     omega
    have J:gT (l.take k) p=6:=by unfold gT;rw [if_neg (by rw [hn];simp),if_pos hs]
    rw [J,if_pos (by decide)] at i;rw [i,if_pos (by dsimp only;decide)] at j;subst j;refine kW ?_;refine aR ⟨_,rfl,?_⟩;rfl
   have hs: ¬65536<p.2.size:=by
    have: ¬(p.2.size:Int)>65536:=by simpa using hb
    omega
   clear hb;refine kW ?_;refine kP [.v (.bool ((l.take k).any fun g=>decide (g.1=p.1)))] ?_ ?_
   ·((repeat' apply aI)<;>first|exact kD|(intro hgd;refine ⟨?_,kG⟩;(repeat' apply aI)<;>first|exact kD|skip)|skip)
    all_goals omega
   cases ha:(l.take k).any fun g=>decide (g.1=p.1) with
   |true=>
    have J:gT (l.take k) p=13:=by unfold gT;rw [if_neg (by rw [hn];simp),if_neg hs,if_pos ha]
    rw [J,if_pos (by decide)] at i;rw [i,if_pos (by dsimp only;decide)] at j;subst j;refine kCt ?_;refine kW ?_;refine aR ⟨_,rfl,?_⟩;rfl
   |false=>
    have J:gT (l.take k) p=0:=by unfold gT;rw [if_neg (by rw [hn];simp),if_neg hs,if_neg (by rw [ha];simp)]
    rw [J,if_neg (by decide)] at i;refine kCf ?_;refine kW ?_;exact AK.lp ⟨k+1,⟨by omega,i⟩,wO ⟨kI,kI,kI,kU,trivial⟩ trivial rfl rfl,by omega⟩
 ·have I:k=l.length:=by
   have:l.length≤k:=by simpa [bn] using hb
   omega
  subst I;clear hb hk;rw [List.drop_length,eN] at C;rw [C,if_neg (by decide)] at j;subst j
  have hR2:(bp l).2.2=0:=by
   unfold bp;rw [if_neg r,C,if_neg (by decide)]
  obtain ⟨_,hnd,_,_,_⟩:=hRe hR2;refine AK.exit rfl ?_;by_cases T:l= []
  ·subst T
   have U:=C9;have h2:=Dd (.fn 84 []) rfl;refine kW ?_;refine kQ [.v (.lst .any 2 [])] ?_;refine kW ?_;refine kQ [.v (.tup [])] ?_;refine kW ?_;refine aR ⟨_,rfl,?_⟩;rfl
  ·have hpos:0<l.length:=List.length_pos_iff.2 T
   have U:=Fd (aS l) (by omega) (by omega);refine kW ?_;refine kQ [.f 2 (aS l)] ?_;refine AK.open 41 41 1000001 rfl (by omega) rfl fun cap m U h2=> ?_
   rw [bn] at U;have hS:=H5 l hnd (by omega) cap m U h2;have hokS:=Ki (iv l) m;have P:=zd l;have hfl: ∀l:List Fl,(aS l).flatten.length=l.length*2:=fun l=>by rw [(Dc l).flat.1,bn]
   have hC:=RowCs.mk_ (Dc (iv l)) (cap:=cap) (m:=m) (by rw [bn,P];exact U) (by
    have:=h2;rw [gA5,hfl] at this;rw [gA5,hfl,P];exact this)
   refine AK.weak (wN (L:= [(0,.sli 1000001 2 l.length cap),(41,.sli 1000001 2 l.length cap)]) (BL:= [(1000001,(aS l).flatten++List.replicate m AV.top,false)]) ⟨⟨_,rfl,.of_eq (by show AV.sli 1000001 2 (aS l).length cap=_;rw [bn])⟩,⟨_,rfl,.of_eq (by show AV.sli 1000001 2 (aS l).length cap=_;rw [bn])⟩,trivial⟩ ⟨kJ,trivial⟩ rfl rfl ⟨zi (fun _=>rfl) rfl _ _,trivial⟩) ?_;refine kW ?_;refine kP [.s [1000001] [(1000001,(aS (iv l)).flatten++List.replicate m AV.top)] (.tup [])] ?_ ?_
   ·(repeat' apply aI)<;>first|exact hS|exact hokS _|exact kD
   refine kW ?_;refine AK.fz 1000001 rfl ?_;refine AK.weak (wN (L:= [(2,.lst .any 2 (aS (iv l))),(3,.str ⟨#[]⟩),(4,.int .i64 0)]) (BL:= []) ⟨⟨_,rfl,?_⟩,kI,kI,trivial⟩ trivial rfl rfl trivial) ?_
   ·show AVle _ (.sli 1000001 2 l.length cap) _
    have hn:l.length=(aS (iv l)).length:=by rw [bn,P]
    rw [hn];exact .one (hC.le rfl)
   refine aR ⟨_,rfl,?_⟩;rfl
end Go.Proofs.YtbgflifmanjpjaaGreatDoor
