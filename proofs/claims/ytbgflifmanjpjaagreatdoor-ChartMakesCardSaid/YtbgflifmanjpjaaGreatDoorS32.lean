/- Part 32. -/
import Derived.Test.YtbgflifmanjpjaaGreatDoorS31
import Derived.Shelf.SlSortCmp.NoneTotal
import Derived.Sort.OwnSorted
set_option linter.unusedSimpArgs false
set_option linter.unusedVariables false
namespace Go.Proofs.YtbgflifmanjpjaaGreatDoor
open Go.RowKit Go.Sort Go.Lib Go.Shelf
theorem iQ {α β:Type} {f:α→List β} {k:Nat} (g: ∀x,(f x).length=k): ∀(l:List α) (i:Nat) (x:α),l[i]? =some x→((l.flatMap f).drop (i*k)).take k=f x
 |y::l,0,x,h=>by
  simp at h;subst h;rw [Nat.zero_mul,List.drop_zero,List.flatMap_cons,←g y,List.take_left' rfl]
 |y::l,i+1,x,h=>by
  rw [List.flatMap_cons,gC3,Nat.one_mul,Nat.add_comm (i*k) k,←List.drop_drop];rw [show ((f y++l.flatMap f).drop k)=l.flatMap f from List.drop_left' (g y)];exact iQ g l i x (by simpa using h)
theorem lz {α β:Type} {f:α→List β} {k:Nat} (g: ∀x,(f x).length=k): ∀l:List α,(l.flatMap f).length=l.length*k
 | []=>by simp
 |y::l=>by rw [List.flatMap_cons,gA5,g,lz g l,gA3,gC3,Nat.one_mul,Nat.add_comm]
theorem vo {α:Type} [Inhabited α] {f:α→List Value} {k:Nat} (i: ∀x,(f x).length=k) (d:Array α):(flatK f k d).toList=d.toList.flatMap f:=by
 apply List.ext_getElem?;intro j;by_cases g:j<d.size*k
 ·have p:0<k:=by
   rcases Nat.eq_zero_or_pos k with h|h
   ·rw [h,Nat.mul_zero] at g;omega
   ·exact h
  have r:j / k<d.size:=(Nat.div_lt_iff_lt_mul p).2 g
  have hg:d.toList[j / k]? =some d[j / k]! :=by
   rw [getElem!_pos d (j / k) r,Array.getElem?_toList,Array.getElem?_eq_getElem r]
  have I:=iQ i d.toList (j / k) _ hg;have hr:j%k<k:=Nat.mod_lt _ p
  have J:(d.toList.flatMap f)[j]? =(f d[j / k]!)[j%k]? :=by
   rw [←I,List.getElem?_take_of_lt hr,List.getElem?_drop,show j / k*k+j%k=j from Nat.div_add_mod' j k]
  rw [J,Array.getElem?_toList,Array.getElem?_eq_getElem (by rw [size_flatK];exact g)];have C:=get_flatK f k d j g;rw [getElem!_pos _ j (by rw [size_flatK];exact g)] at C;rw [C,gA1 (by rw [i];exact hr),getElem!_pos _ _ (by rw [i];exact hr)]
 ·rw [List.getElem?_eq_none (by rw [Array.length_toList,size_flatK];omega),List.getElem?_eq_none (by rw [lz i,Array.length_toList];omega)]
theorem HV {w:World} {g n:Nat} {os:Array Obj} {i:Array Value} {e:TypeId} {fr:Nat×Nat} (F:Array Value) (hb:w.heap[g]? =some (.cells i e fr)):
  (grow (putRow id (Sort.ahead w n) g 0 F) os).heap[g]? =some (.cells (putCells id 0 F i) e fr):=by
 have hg:g<w.heap.size:=(gC0 hb).1;rw [heap_grow_old _ _ (by simpa using hg)];simp [putRow,mapBlock,Sort.ahead,Array.getElem?_modify,hb,onCells]
theorem xQ {w:World} {g n:Nat} {os:Array Obj} (F:Array Value):w.grownBy (grow (putRow id (Sort.ahead w n) g 0 F) os) (some g):=by
 refine ⟨rfl,rfl,rfl,by simp,fun k j i=> ?_⟩;rw [heap_grow_old _ _ (by simpa using j)];have:g≠k:=fun e=>i (by rw [e])
 simp [putRow,mapBlock,Sort.ahead,Array.getElem?_modify,this]
theorem HW (g F:Array Value) (h:F.size≤g.size):(putCells id 0 F g).toList.take F.size=F.toList:=by
 apply List.ext_getElem?;intro j;by_cases i:j<F.size
 ·rw [List.getElem?_take_of_lt i,Array.getElem?_toList]
  simp [putCells,i,show j<g.size by omega]
 ·rw [List.getElem?_take_eq_none (by omega),List.getElem?_eq_none (by simpa using Nat.le_of_not_lt i)]
theorem JA (g F:Array Value) (h:F.size≤g.size) (j:Nat) (p:F.size≤j):(putCells id 0 F g)[j]? =g[j]? :=by
 by_cases i:j<g.size
 ·simp [putCells,i,show¬j<F.size by omega]
 ·rw [Array.getElem?_eq_none (by simp [putCells];omega),Array.getElem?_eq_none (by omega)]
theorem HX {P:Program} {ρ:Ren} (L:SlLaysF0.n6 P ρ) {size:Nat} (aE: ∀w,(isAgg (ρ.t 24)).run P w= .ok true w) (zE: ∀w,(Go.sizeOf (ρ.t 24)).run P w= .ok size w)
  {α κ:Type} {e:TypeId} {R:List Value→α→Prop} {w:World} {b cap:Nat} {p:Array Value} {l:List α} (hb:w.heap[b]? =some (.cells p e (0,0))) (hcap:l.length≤cap) (hcur:p.size=cap*size) (hR0: ∀i x,l[i]? =some x→R ((p.toList.drop (i*size)).take size) x)
  (h1: ∀cs x,R cs x→ ∀u∈cs,u.oneCell' =true) {c:κ→κ→Int} (hc:CmpOk c) (key:α→κ) (hnd:(l.map key).Nodup) (hlen:l.length<4611686018427387904)
  (g:Nat) (cb:Array Value) (eg: ∀args w,(callFunc g args).run P w= .ok (.enter g args) w)
  (hcall: ∀cs ds x y,x∈l→y∈l→R cs x→R ds y→ ∀W,w.grownBy W (some b)→Calls P g (#[.agg cs.toArray,.agg ds.toArray]++cb) W fun e w' =>e= .returned (.int .i64 (c (key x) (key y)))∧ ∃q os',w' =grow (W.drewN q) os'):
  Calls P (ρ.f 6) #[.slice (some ⟨b,0,none⟩) l.length cap,.func (.func g) #[] cb] w fun e' w' =>e' = .returned (.tuple #[])∧ ∃(l' :List α) (r:Array Value),l'.Perm l∧l'.Pairwise (fun x y=>c (key x) (key y)<0)∧w'.heap[b]? =some (.cells r e (0,0))∧r.size=p.size∧
   (∀i x,l'[i]? =some x→R ((r.toList.drop (i*size)).take size) x)∧(∀j,l.length*size≤j→r[j]? =p[j]?)∧w.grownBy w' (some b):=by
 have hcl:p.toList.length=cap*size:=by simpa using hcur
 by_cases hl0:l.length=0
 ·obtain rfl:=List.length_eq_zero_iff.1 hl0
  refine (AnyF.slices_SortFunc_none L (some ⟨b,0,none⟩) cap _ w).mono ?_;rintro e' w' ⟨rfl,rfl⟩;exact ⟨rfl,[],p,.refl _,.nil,hb,rfl,fun i x U=>by simp at U,fun j _=>rfl,⟨rfl,rfl,rfl,gA4 _,fun _ _ _=>rfl⟩⟩
 have hne:0<l.length:=by omega
 haveI:Inhabited (Fin l.length):=⟨⟨0,hne⟩⟩
 have hbl:b<w.heap.size:=(gC0 hb).1;obtain ⟨xs,hxs⟩: ∃xs,p.toList.take (l.length*size)=xs:=⟨_,rfl⟩
 have hle:l.length*size≤cap*size:=Nat.mul_le_mul_right _ hcap;have hxl:xs.length=l.length*size:=by rw [←hxs,gA7,hcl];omega
 have htake:p.toList.take (l.length*size)=xs:=hxs
 have hin: ∀i:Fin l.length,i.val*size+size≤xs.length:=fun i=>by
  have:=Nat.mul_le_mul_right size (show i.val+1≤l.length from i.isLt);rw [gC3,Nat.one_mul] at this;omega
 have hR: ∀(i:Fin l.length) x,l[i.val]? =some x→R ((xs.drop (i.val*size)).take size) x:=fun i x U=>by
  have h2:=hR0 i.val x U
  have:(xs.drop (i.val*size)).take size=(p.toList.drop (i.val*size)).take size:=by
   rw [←hxs,List.drop_take,List.take_take];congr 1;have:=hin i;omega
  rw [this];exact h2
 obtain ⟨enc,J⟩: ∃enc:Fin l.length→List Value,∀i,enc i=(xs.drop (i.val*size)).take size:=⟨_,fun _=>rfl⟩
 have hk: ∀i,(enc i).length=size:=fun i=>by rw [J,gA7,gA6];have:=hin i;omega
 have hRe: ∀i:Fin l.length,R (enc i) l[i]:=fun i=>by rw [J];exact hR i _ (gA1 i.isLt)
 have C:CmpOk fun i j:Fin l.length=>c (key l[i]) (key l[j]):=hc.by_ (f:=fun i:Fin l.length=>key l[i]) fun i j hij=>by
  have hp:=List.pairwise_iff_getElem.1 hnd;have hz:(l.map key).length=l.length:=List.length_map _;by_cases h:i.val<j.val
  ·exact absurd (by simpa using hij) (hp i.val j.val (by rw [hz];exact i.isLt) (by rw [hz];exact j.isLt) h)
  ·by_cases h' :j.val<i.val
   ·exact absurd (by simpa using hij.symm) (hp j.val i.val (by rw [hz];exact j.isLt) (by rw [hz];exact i.isLt) h')
   ·exact Fin.ext (by omega)
 obtain ⟨d,hd,hdz⟩: ∃d:Array (Fin l.length),d.toList=List.finRange l.length∧d.size=l.length:=⟨(List.finRange l.length).toArray,rfl,by simp⟩
 have hflat:d.toList.flatMap enc=xs:=by
  apply List.ext_getElem?;intro j;by_cases I:j<l.length*size
  ·have k0:0<size:=by
    rcases Nat.eq_zero_or_pos size with h|h
    ·rw [h,Nat.mul_zero] at I;omega
    ·exact h
   have hq:j / size<l.length:=(Nat.div_lt_iff_lt_mul k0).2 I;have hg:d.toList[j / size]? =some ⟨j / size,hq⟩:=by rw [hd];simp [hq]
   have T:=iQ hk d.toList (j / size) _ hg;have hr:j%size<size:=Nat.mod_lt _ k0;have e1:j / size*size+j%size=j:=Nat.div_add_mod' j size;have h4:(d.toList.flatMap enc)[j]? =(enc ⟨j / size,hq⟩)[j%size]? :=by rw [←T,List.getElem?_take_of_lt hr,List.getElem?_drop,e1]
   rw [h4,J,List.getElem?_take_of_lt hr,List.getElem?_drop,e1]
  ·rw [List.getElem?_eq_none (by rw [lz hk,Array.length_toList,hdz];omega),List.getElem?_eq_none (by omega)]
 have hF:(flatK enc size d).toList=xs:=by rw [vo hk,hflat]
 have hH:HoldsK enc size w b 0 d:=by
  intro j I;have hj2:j<xs.length:=by rw [←hF];simpa using I
  refine ⟨?_,by simp [World.frozen?,hb]⟩;have T:(p.toList.take (l.length*size))[j]? =xs[j]? :=by rw [htake]
  rw [List.getElem?_take_of_lt (by omega)] at T;simp only [World.cell?,hb,Nat.zero_add];simp only [Option.isSome_none,Bool.false_eq_true,if_false];rw [←Array.getElem?_toList,T,←hF,Array.getElem?_toList,getElem!_pos _ j I,Array.getElem?_eq_getElem I];rfl
 have hcmp:CmpLays P g cb enc size (fun i j:Fin l.length=>c (key l[i]) (key l[j])) b 0 d.size w:=fun m os dk _ x y=>
  hcall (enc x) (enc y) l[x] l[y] (List.getElem_mem _) (List.getElem_mem _) (hRe x) (hRe y) _ (xQ (n:=m) (os:=os) (flatK enc size dk))
 have hsz:d.size<4611686018427387904:=by rw [hdz];exact hlen
 have hS:=AnyQ.slices_SortFunc_total L size aE zE enc hk (fun i=>h1 _ _ (hRe i)) _ C.swo g cb b 0 cap d w eg hcmp hH hbl hsz C.tot;rw [hdz] at hS;refine hS.mono ?_;rintro e' w' ⟨rfl,n,os,rfl⟩;generalize hts:d.toList.mergeSort (fun x y=> !(ltOf fun i j:Fin l.length=>c (key l[i]) (key l[j])) y x)=ts;have hp:ts.Perm (List.finRange l.length):=by rw [←hts,←hd];exact List.mergeSort_perm _ _
 have htl:ts.length=l.length:=by rw [hp.length_eq];simp
 have hso:ts.Pairwise fun i j=>c (key l[i]) (key l[j])<0:=by
  have hs:=List.pairwise_mergeSort (le:=fun x y=> !(ltOf fun i j:Fin l.length=>c (key l[i]) (key l[j])) y x) (fun x y z h k=>by
   simp only [Bool.not_eq_true'] at h k⊢;exact C.swo.ntrans z y x k h) (fun x y=>by
   cases h:ltOf (fun i j:Fin l.length=>c (key l[i]) (key l[j])) y x with
   |false=>rfl
   |true=>
    cases k:ltOf (fun i j:Fin l.length=>c (key l[i]) (key l[j])) x y with
    |false=>rfl
    |true=>
     have:=C.swo.trans _ _ _ h k;rw [C.swo.irrefl] at this;cases this) d.toList
  rw [hts] at hs;have hnd2:ts.Nodup:=hp.nodup_iff.2 (List.nodup_finRange _);refine (hs.and hnd2).imp fun {i j} h=> ?_
  have T: ¬c (key l[j]) (key l[i])<0:=by
   have:=h.1;simp only [Bool.not_eq_true'] at this;exact gB4 this
  by_cases e0:c (key l[i]) (key l[j])=0
  ·exact absurd ((C.eq i j).1 e0) h.2
  ·by_cases e1:0<c (key l[i]) (key l[j])
   ·exact absurd ((hc.anti _ _).1 e1) T
   ·omega
 have hz:(flatK enc size ts.toArray).size=l.length*size:=by rw [size_flatK];simp [htl]
 have hzc:(flatK enc size ts.toArray).size≤p.size:=by rw [hz,hcur];exact hle
 refine ⟨rfl,ts.map (fun i=>l[i]),_,?_,?_,HV _ hb,by simp [putCells],fun i x U=> ?_,fun j I=>JA _ _ hzc j (by rw [hz];exact I),xQ _⟩
 ·have T:=hp.map (fun i:Fin l.length=>l[i])
  rwa [show (List.finRange l.length).map (fun i:Fin l.length=>l[i])=l from List.ext_getElem (by simp) (fun i h h' =>by simp)] at T
 ·exact List.pairwise_map.2 hso
 ·rw [gA8] at U
  cases I:ts[i]? with
  |none=>rw [I] at U;cases U
  |some j=>
   rw [I] at U;cases U;have T:=HW p (flatK enc size ts.toArray) hzc;rw [hz,vo hk] at T;have hil:i<ts.length:=(gA0 I).1
   have h4:i*size+size≤l.length*size:=by
    have:=Nat.mul_le_mul_right size (show i+1≤l.length by omega);rw [gC3,Nat.one_mul] at this;exact this
   have h5:(((putCells id 0 (flatK enc size ts.toArray) p).toList).drop (i*size)).take size=((ts.flatMap enc).drop (i*size)).take size:=by
    rw [←T,List.drop_take,List.take_take];congr 1;omega
   rw [h5,iQ hk ts i j I];exact hRe j
theorem Dy {α κ:Type} {c:κ→κ→Int} (i:CmpOk c) (key:α→κ) {l g:List α} (j:l.Perm g) (p:l.Pairwise fun x y=>c (key x) (key y)<0) (r:g.Pairwise fun x y=>c (key x) (key y)<0):l=g:=
 j.eq_of_pairwise (fun a b _ _ h k=>by
  have C:=(i.anti (key b) (key a)).2 h;omega) p r
theorem By {α:Type} {σ:Sg} {enc:α→List AV} {size:Nat} (r: ∀x,(enc x).length=size): ∀{l:List α} {ys:List Value},ys.length=l.length*size→(∀i x,l[i]? =some x→RelL σ ((ys.drop (i*size)).take size) (enc x))→RelL σ ys (l.map enc).flatten
 | [],ys,hl,_=>by
  have:ys= []:=List.eq_nil_of_length_eq_zero (by simpa using hl);subst this;exact .nil
 |x::l,ys,hl,h=>by
  have j:=h 0 x rfl;rw [Nat.zero_mul,List.drop_zero] at j;have g:(ys.drop size).length=l.length*size:=by rw [gA6,hl,gA3,gC3];omega
  have C:=By r (l:=l) (ys:=ys.drop size) g fun i y hy=>by
   have:=h (i+1) y (by simpa using hy);rw [List.drop_drop];rw [show size+i*size=(i+1)*size by rw [gC3];omega];exact this
  have p:=j.append C;rw [List.take_append_drop] at p;simpa using p
theorem FS {α:Type} {enc:α→List AV} {size:Nat} (g: ∀x,(enc x).length=size) {l:List α} {T:List AV} {i:Nat} {x:α} (h:l[i]? =some x):(((l.map enc).flatten++T).drop (i*size)).take size=enc x:=by
 have e:(l.map enc).flatten=l.flatMap enc:=rfl;have hi:=(gA0 h).1;have hlen:=lz g l
 have j:i*size+size≤l.length*size:=by
  have:=Nat.mul_le_mul_right size (show i+1≤l.length by omega);rw [gC3,Nat.one_mul] at this;exact this
 rw [e,List.drop_append_of_le_length (by omega),List.take_append_of_le_length (by rw [gA6];omega)];exact iQ g l i x h
def AV.clean:AV→Bool
 | .int _ _| .bool _| .str _| .ro _| .fn _ _| .raw _| .top=>true
 | .lst .any _ _=>true
 |_=>false
theorem Bz {a:AV} (h:a.clean=true):a.unown=a:=by
 cases a<;>first|rfl|(rename_i t _ _;cases t<;>first|rfl|cases h)|cases h
theorem FT {a:AV} (h:a.clean=true) (B:Nat→Option Nat) (v:Value):TagB B v a:=by
 cases a<;>first|trivial|cases h
theorem JB {P:Program} {ρ:Ren} (L:SlLaysF0.n6 P ρ) {size:Nat} (hcb:ab P (ρ.f 6)=true) (aE: ∀w,(isAgg (ρ.t 24)).run P w= .ok true w) (zE: ∀w,(Go.sizeOf (ρ.t 24)).run P w= .ok size w)
  {α κ:Type} (enc:α→List AV) (hk: ∀x,(enc x).length=size) (hcl: ∀x,∀c∈enc x,c.clean=true) {c:κ→κ→Int} (hc:CmpOk c) (key:α→κ) {l l' :List α} (hnd:(l.map key).Nodup) (hlen:l.length<4611686018427387904) (hp:l'.Perm l) (hs:l'.Pairwise fun x y=>c (key x) (key y)<0)
  (F:FuncId) (eg: ∀args w,(callFunc F args).run P w= .ok (.enter F args) w)
  (hcall: ∀σ cs ds x y,x∈l→y∈l→RelL σ cs (enc x)→RelL σ ds (enc y)→ ∀W,GW W→Calls P F #[.agg cs.toArray,.agg ds.toArray] W fun e w' =>e= .returned (.int .i64 (c (key x) (key y)))∧ ∃q os',w' =grow (W.drewN q) os')
  (cap m:Nat) (hcap:l.length≤cap) (hz:((l.map enc).flatten++List.replicate m AV.top).length=cap*size):
  MS P (ρ.f 6) [(2000000,(l.map enc).flatten++List.replicate m AV.top)] [.sli 2000000 size l.length cap,.fn F []] [(2000000,(l'.map enc).flatten++List.replicate m AV.top)] (.tup []):=by
 refine ⟨hcb,fun σ w B vs hh hg hdom hinj hgl hat hr=> ?_⟩;obtain ⟨g,t,vs0,hB,C,hrel,htag,J⟩:=hat 2000000 _ (List.mem_singleton.2 rfl);have C:=C.cells rfl
 obtain ⟨v1,v2,rfl⟩: ∃a b,vs= [a,b]:=by
  have:=hr.1;rcases vs with _|⟨a,_|⟨b,_|⟨_,_⟩⟩⟩<;>simp at this
  exact ⟨a,b,rfl⟩
 obtain ⟨_,g',hv1,hg'⟩:TagB B v1 (.sli 2000000 size l.length cap):=hr.2 0 v1 _ rfl rfl;have hgg:=hg' g hB;subst hgg;subst hv1;have hv2:Rel1 σ v2 (.fn F []):=hr.2 1 v2 _ rfl rfl;obtain ⟨us,hv2,hus⟩:=bV hv2;have hus:us= []:=List.eq_nil_of_length_eq_zero hus.1;subst hus hv2
 have hun: ∀(l:List α),((l.map enc).flatten++List.replicate m AV.top).map AV.unown=(l.map enc).flatten++List.replicate m AV.top:=fun l=>by
  rw [show ((l.map enc).flatten++List.replicate m AV.top).map AV.unown=((l.map enc).flatten++List.replicate m AV.top).map id from List.map_congr_left fun a I=> ?_,List.map_id];rcases gB5 I with I|I
  ·obtain ⟨r,hr,har⟩:=List.mem_flatten.1 I
   obtain ⟨x,_,rfl⟩:=List.mem_map.1 hr;exact Bz (hcl x a har)
  ·rw [(List.mem_replicate.1 I).2];rfl
 rw [hun] at hrel;have hsz:vs0.size=cap*size:=by have:=hrel.1;rw [hz] at this;simpa using this
 have hfl:(l.map enc).flatten.length=l.length*size:=lz hk l;refine (HX L (R:=fun cs x=>RelL σ cs (enc x)) aE zE C hcap hsz (fun i x hx=> ?_) (fun cs x h=>h.one) hc key hnd hlen F #[] eg (fun cs ds x y hx hy T h2 W hW=> ?_)).mono ?_
 ·have T:=(hrel.drop (i*size)).take size
  rw [FS hk hx] at T;exact T
 ·refine hcall σ cs ds x y hx hy T h2 W (hg.belowK (K:=fun b=>b=g) (fun b e=> ?_) (jO hW rfl))
  rw [e];exact hgl 2000000 g hB
 rintro e' w' ⟨rfl,U,p,hp2,hs2,hb2,hz2,hR2,hrest,hgr⟩;have hl2:U=l' :=Dy hc key (hp2.trans hp.symm) hs2 hs;subst hl2;have hll:U.length=l.length:=hp2.length_eq
 have hrel2:RelL σ p.toList ((U.map enc).flatten++List.replicate m AV.top):=by
  have hcz:p.toList.length=cap*size:=by simpa [hsz] using hz2
  have hle:U.length*size≤cap*size:=Nat.mul_le_mul_right _ (by omega)
  have T:RelL σ (p.toList.take (U.length*size)) (U.map enc).flatten:=By hk (by rw [gA7];omega) fun i x hx=>by
   have h2:=hR2 i x hx;have hi:=(gA0 hx).1
   have hle:i*size+size≤U.length*size:=by
    have:=Nat.mul_le_mul_right size (show i+1≤U.length by omega);rw [gC3,Nat.one_mul] at this;exact this
   rw [List.drop_take,List.take_take,show min size (U.length*size-i*size)=size by omega];exact h2
  have h3:RelL σ (p.toList.drop (U.length*size)) (List.replicate m AV.top):=by
   have hd:=hrel.drop (l.length*size);rw [←hfl,List.drop_left] at hd;refine ⟨by rw [←hd.1];simp [hfl,hz2,hll],fun j v a hv I=> ?_⟩;rw [List.getElem?_drop,Array.getElem?_toList,hrest _ (by rw [hll];omega)] at hv;refine hd.2 j v a ?_ I;rw [List.getElem?_drop,Array.getElem?_toList,hfl,←hll];exact hv
  have h4:=T.append h3;rw [List.take_append_drop] at h4;exact h4
 have hne: ∀b o v,σ b o=some v→b≠g:=by
  rintro b o v hv rfl;rw [J o] at hv;cases hv
 refine ⟨σ,.tuple #[],B,rfl,⟨.refl σ,fun _ _ _ _=>rfl⟩,fun b o v hv=> ?_,jO hgr ⟨2000000,hB⟩,fun id g' hB' => ?_,hinj,fun id cs hm=> ?_,⟨[],rfl,rfl,fun j u x hu=>by simp at hu⟩,fun id g' hB' => .inl ⟨id,hB'⟩,fun id g' g'' T h2=>by rw [T] at h2;exact Option.some.inj h2⟩
 ·have T:=hh b o v hv
  have hlt:=World.block_lt_of_cell? w _ T;exact (World.cell?_of_block (w:=w) (a:=⟨b,o,none⟩) (hgr.block b hlt fun e=>hne b o v hv (by cases e;rfl))).trans T
 ·exact hdom id g' hB'
 ·rw [List.mem_singleton] at hm
  cases hm;refine ⟨g,t,p,hB,.mk rfl (zR rfl) hb2,by rw [hun];exact hrel2,fun j v a hv I=>FT ?_ _ _,J⟩;have I:=gA2 I;rcases gB5 I with I|I
  ·obtain ⟨r,hr,har⟩:=List.mem_flatten.1 I
   obtain ⟨x,_,rfl⟩:=List.mem_map.1 hr;exact hcl x a har
  ·rw [(List.mem_replicate.1 I).2];rfl
end Go.Proofs.YtbgflifmanjpjaaGreatDoor
