/- Part 13. -/
import Derived.Test.YtbgflifmanjpjaaGreatDoorS12
import Derived.Shelf.RegionOpenPlain
import Derived.Lib.Walk
import Derived.Lib.SliceRun
import Derived.Lib.Overlaps
import Derived.Lib.AppendZerosOnto
import Derived.Laws.Externs
import Derived.Laws.IdiomCopy
import Derived.Laws.NewBlocks
set_option linter.unusedSimpArgs false
set_option linter.unusedVariables false
namespace Go.Proofs.YtbgflifmanjpjaaGreatDoor
section
open Go.RowKit
abbrev Rises (m:List (ByteArray×V)):Prop:=m.Pairwise (fun p q=>klt p.1 q.1)
def ap (key:ByteArray) (x:V):List (ByteArray×V)→List (ByteArray×V)
 | []=> [(key,x)]
 |(k,y)::m=>if bW k key<0 then (k,y)::ap key x m else if bW k key=0 then (key,x)::m else (key,x)::(k,y)::m
theorem F2 {a b:ByteArray} (h: ¬bW a b<0) (g:bW a b≠0):klt b a:=by
 have i: ¬klt a b:=fun k=>h (eE.2 k)
 have j:a≠b:=fun e=>g (ip.2 e)
 refine qK (by simpa [klt] using i) (by
  rw [qr];simpa using j)
theorem lR {key:ByteArray} {x:V}: ∀{m:List (ByteArray×V)} {p:ByteArray×V},p∈ap key x m→p=(key,x)∨p∈m
 | [],p,h=>by simpa [ap] using h
 |(k,y)::m,p,h=>by
  rw [ap] at h;split at h
  ·rcases gB2 h with rfl|h
   ·simp
   ·rcases lR h with h|h
    ·exact .inl h
    ·exact .inr (by simp [h])
  ·split at h
   ·rcases gB2 h with rfl|h
    ·simp
    ·exact .inr (by simp [h])
   ·rcases gB2 h with rfl|h
    ·simp
    ·exact .inr h
theorem iF {key:ByteArray} {x:V}: ∀{m:List (ByteArray×V)},Rises m→Rises (ap key x m)
 | [],_=>by simp [ap,Rises]
 |(k,y)::m,h=>by
  have j:=List.pairwise_cons.1 h;rw [ap];split
  ·rename_i i
   refine List.pairwise_cons.2 ⟨fun p g=> ?_,iF j.2⟩;rcases lR g with rfl|g
   ·exact eE.1 i
   ·exact j.1 p g
  ·rename_i i
   split
   ·rename_i heq
    have:=ip.1 heq;subst this;exact List.pairwise_cons.2 ⟨fun p g=>j.1 p g,j.2⟩
   ·rename_i r
    have C:=F2 i r;refine List.pairwise_cons.2 ⟨fun p g=> ?_,h⟩;rcases gB2 g with rfl|g
    ·exact C
    ·exact jd C (j.1 p g)
theorem nS {key:ByteArray} {x:V}: ∀(m:List (ByteArray×V)),aA (ap key x m)≤aA m+x.size∧(ap key x m).length≤m.length+1
 | []=>by simp [ap,aA]
 |(k,y)::m=>by
  have ih:=nS (key:=key) (x:=x) m;rw [ap];split
  ·simp only [aA,gA3];omega
  ·split
   ·simp only [aA,gA3];omega
   ·simp only [aA,gA3];omega
theorem qZ (key:ByteArray) (p:ByteArray×V) (m:List (ByteArray×V)):bZ key (p::m)=if bW p.1 key<0 then bZ key m+1 else 0:=by
 rw [bZ,List.takeWhile_cons];by_cases h:bW p.1 key<0
 ·rw [if_pos (by simpa [vW] using h),if_pos h];rfl
 ·rw [if_neg (by simpa [vW] using h),if_neg h];rfl
theorem sy (key:ByteArray) (p:ByteArray×V) (m:List (ByteArray×V)):cq key (p::m)=if bW p.1 key<0 then cq key m else decide (bW p.1 key=0):=by
 rw [cq,qZ];by_cases h:bW p.1 key<0
 ·rw [if_pos h,if_pos h];rfl
 ·rw [if_neg h,if_neg h];rfl
theorem iG {key:ByteArray} {x:V}: ∀{m:List (ByteArray×V)},cq key m=true→ap key x m=m.set (bZ key m) (key,x)∧ ∃y,m[bZ key m]? =some (key,y)
 | [],h=>by simp [cq,bZ] at h
 |(k,y)::m,h=>by
  rw [sy] at h;rw [ap,qZ];by_cases g:bW k key<0
  ·rw [if_pos g] at h⊢
   rw [if_pos g];obtain ⟨j,p⟩:=iG (x:=x) h;exact ⟨by rw [j];rfl,p⟩
  ·rw [if_neg g] at h⊢
   rw [if_neg g];have i:bW k key=0:=by simpa using h
   have:=ip.1 i;subst this;rw [if_pos i];exact ⟨rfl,y,rfl⟩
theorem sA {key:ByteArray} {x:V}: ∀{m:List (ByteArray×V)},cq key m=false→ap key x m=m.take (bZ key m)++(key,x)::m.drop (bZ key m)
 | [],_=>rfl
 |(k,y)::m,h=>by
  rw [sy] at h;rw [ap,qZ];by_cases g:bW k key<0
  ·rw [if_pos g] at h⊢
   rw [if_pos g,sA (x:=x) h];rfl
  ·rw [if_neg g] at h⊢
   rw [if_neg g,if_neg (by simpa using h)];rfl
def iq (l:List (ByteArray×V)):List (ByteArray×V):=l.foldl (fun m p=>ap p.1 p.2 m) []
theorem oB {l:List (ByteArray×V)} {k:Nat} {p:ByteArray×V} (h:l[k]? =some p):iq (l.take (k+1))=ap p.1 p.2 (iq (l.take k)):=by
 rw [iq,e9 h,List.foldl_append];rfl
theorem B7 (l:List (ByteArray×V)):Rises (iq l)∧aA (iq l)≤aA l∧(iq l).length≤l.length:=by
 have key: ∀(l m:List (ByteArray×V)),Rises m→Rises (l.foldl (fun m p=>ap p.1 p.2 m) m)∧aA (l.foldl (fun m p=>ap p.1 p.2 m) m)≤aA m+aA l∧(l.foldl (fun m p=>ap p.1 p.2 m) m).length≤m.length+l.length:=by
  intro l
  induction l with
  |nil=>intro m g;simp [aA,g]
  |cons p l ih=>
   intro m g;obtain ⟨k,x⟩:=p;have hb:=nS (key:=k) (x:=x) m;obtain ⟨i,j,r⟩:=ih (ap k x m) (iF g);simp only [List.foldl_cons,aA,gA3];exact ⟨i,by omega,by omega⟩
 obtain ⟨i,j,r⟩:=key l [] List.Pairwise.nil;exact ⟨i,by simp only [aA,Nat.zero_add] at j;exact j,by simp only [List.length_nil,Nat.zero_add] at r;exact r⟩
theorem pN {key:ByteArray} {x:V}: ∀{m:List (ByteArray×V)},(∀p∈m,klt p.1 key)→ap key x m=m++ [(key,x)]
 | [],_=>rfl
 |(k,y)::m,h=>by
  rw [ap,if_pos (eE.2 (h (k,y) (by simp))),pN fun p g=>h p (by simp [g])];rfl
theorem B8 {l:List (ByteArray×V)} (h:Rises l):iq l=l:=by
 have key: ∀(l m:List (ByteArray×V)),Rises (m++l)→l.foldl (fun m p=>ap p.1 p.2 m) m=m++l:=by
  intro l
  induction l with
  |nil=>intro m _;simp
  |cons p l ih=>
   intro m g;rw [List.foldl_cons,pN (fun q i=>(List.pairwise_append.1 g).2.2 q i p (by simp)),ih _ (by simpa using g)];simp
 exact key l [] (by simpa using h)
theorem Hi (m:List (ByteArray×V)) (i:Nat) (y:ByteArray) (x:V):am (m.set i (y,x))=(am m).set i (.str y::oA x):=by
 induction m generalizing i with
 |nil=>rfl
 |cons p m ih=>
  obtain ⟨k,z⟩:=p;cases i with
  |zero=>rfl
  |succ i=>simp [am,ih]
theorem pO (a b:List (ByteArray×V)):am (a++b)=am a++am b:=by
 induction a with
 |nil=>rfl
 |cons p a ih=>obtain ⟨k,z⟩:=p;simp [am,ih]
theorem En (m:List (ByteArray×V)) (i:Nat):am (m.take i)=(am m).take i:=by
 induction m generalizing i with
 |nil=>cases i<;>rfl
 |cons p m ih=>obtain ⟨k,z⟩:=p;cases i<;>simp [am,ih]
theorem Eo (m:List (ByteArray×V)) (i:Nat):am (m.drop i)=(am m).drop i:=by
 induction m generalizing i with
 |nil=>cases i<;>rfl
 |cons p m ih=>obtain ⟨k,z⟩:=p;cases i<;>simp [am,ih]
end
section
open Go.RowKit
section
variable {P:Program}
theorem ci (w:World) (t t2 ty e:TypeId) (I:TypeInfo) (ht:P.underlying t=some (.slice e)) (hi:P.info? e=some I) (g o r J:Nat) (e' :TypeId) (i:Array Value) (hg:w.heap[g]? =some (.cells i e' (0,0))) (a:Addr) (p C n:Nat) (hn:n=Nat.min p r) (cs:List Value) (hl:cs.length=n*I.size)
  (R: ∀(j:Nat) u,cs[j]? =some u→w.cell? (a.add j)=some u) (h1: ∀u∈cs,u.oneCell' =true) (T:o+cs.length≤i.size):
  (Builtin.copy_ #[t,t2] ty #[.slice (some ⟨g,o,none⟩) r J,.slice (some a) p C]).run P w= .ok (goInt n) (w.setRow g (i.toList.take o++cs++i.toList.drop (o+cs.length)).toArray):=by
 have hf:=run_firstCells_some (P:=P) w I.size n a p C cs hl R;have U:=run_storeCells_at P g o e' cs 0 i w hg (by simpa using T) h1;simp only [Nat.add_zero] at U;subst hn;simp [Builtin.copy_,run_underlying ht,sizeOf,typeInfo,hi,Builtin.lenOf,hf,U]
end
theorem je {P:Program} (w:World) (g tR e:TypeId) (ht:P.underlying g=some (.slice e)) (size:Nat) (hz: ∀w,(Go.sizeOf e).run P w= .ok size w) (a b:Addr) (r ca C cb:Nat) (i:a.block≠b.block) (tA tB:TypeId) (kA kB:Nat)
  (I:w.shape? a.block=some (tA,kA+1)) (J:w.shape? b.block=some (tB,kB+1)) (R:w.frozen? b=false) (T:w.frozen? {block:=b.block,off:=kB+1}=false):
  (Extern.SlicesOverlaps.overlaps #[g,g] #[tR] #[.slice (some a) r ca,.slice (some b) C cb]).run P w= .ok (.bool false) w:=by
 have U:(a.block !=b.block)=true:=by simpa using i
 have j:(a.block==b.block)=false:=by simpa using i
 change Sem.run P (α:=Value) (do
  let some t:=(#[g,g]:Array TypeId)[0]? |stuck "slices.overlaps: no parameter types"
  let .slice elem←underlying t|stuck "slices.overlaps: slice type expected"
  let size←sizeOf elem
  match (some a:Option Addr),(some b:Option Addr) with
  |some a,some b=>
   if r=0∨C=0∨size=0 then pure (Value.bool false)
   else if a.block !=b.block&&(←frozen a)&&(←frozen b) then unsupported .addressObserved
   else do
    if a.block !=b.block then do
     noView a;noView b
     if←mayBeOne a b then return Value.bool ((←choose (.extern "sameAddr.stringBytes" 2))==1)
    pure (Value.bool (a.block==b.block&&a.off<b.off+C*size&&b.off<a.off+r*size))
  |_,_=>pure (Value.bool false)) w=_
 by_cases h0:r=0∨C=0∨size=0
 ·simp [run_underlying ht,hz,h0]
 ·cases hfa:w.frozen? a<;>cases p:w.frozen? {block:=a.block,off:=kA+1}<;>
   simp [run_underlying ht,hz,h0,U,j,frozen,noView,viewAt,mayBeOne,stringish,shape,Sem.run,I,J,hfa,p,R,T]
theorem nT {w:World} {b o:Nat} {v:Value} (h:w.cell? ⟨b,o,none⟩=some v): ∃t k,w.shape? b=some (t,k+1):=by
 unfold World.cell? at h;unfold World.shape?;split at h
 ·rename_i cs e z g
  simp only at g;rw [g]
  have:o<cs.size:=by
   simp only at h;exact (gC0 h).1
  exact ⟨e,cs.size-1,by simp only;congr 2;omega⟩
 ·cases h
set_option maxHeartbeats 4000000 in
set_option maxRecDepth 100000 in
theorem tD (g cap n:Nat) (e:TypeId) (i:Array Value) (xc:List Value) (P R p:Nat) (w:World) (hg:w.heap[g]? =some (.cells i e (0,0))) (hsz:i.size=cap*7) (r:n+1≤cap)
  (C:xc.length=7) (U: ∀(j:Nat) v,xc[j]? =some v→w.cell? ⟨P,R+j,none⟩=some v) (h1: ∀v∈xc,v.oneCell' =true):
  Calls Tryz.prog 79 #[.slice (some ⟨g,0,none⟩) n cap,.int .i64 n,.slice (some ⟨P,R,none⟩) 1 p] w fun e' w' =>
   e' = .returned (.slice (some ⟨g,0,none⟩) (n+1) cap)∧w' =w.setRow g (i.toList.take (n*7)++xc++i.toList.drop (n*7+7)).toArray:=by
 obtain ⟨i0,T,hz0,I,hzb⟩:=info_parts dA
 have J: ∀ty,(Builtin.append_ #[24,24] ty #[.slice (some ⟨g,0,none⟩) n cap,.slice (some ⟨P,R,none⟩) 1 p]).run Tryz.prog w= .ok (.slice (some ⟨g,0,none⟩) (n+1) cap) (w.setRow g (i.toList.take (n*7)++xc++i.toList.drop (n*7+7)).toArray):=fun ty=>by
  have:=dx w 24 ty 78 e i0 Tryz.underlying24 T g n cap i hg ⟨P,R,none⟩ 1 p xc (by rw [I,C]) (fun j u hj=>by rw [Addr.add_lit];exact U j u hj) h1 r (by rw [I,C,hsz];have:=Nat.mul_le_mul_right 7 r;omega);rw [I,C] at this;exact this
 go_enter Tryz.func79,Tryz.ntmps79
 go_wp2_with (at_builtin;refine Lib.wpList_append_run _ rfl _ _ _ _ rfl _ _ rfl rfl _ _ (J _) ?_)
 go_ret
 exact ⟨rfl,by simp⟩
def InsNew (w:World) (k:Nat) (cs:List Value) (i:Ending) (w' :World):Prop:= ∃(cap' :Nat) (g:List Value),k≤cap' ∧(∀u∈g,u.oneCell' =true)∧k*7+g.length=cap' *7∧
 i= .returned (.slice (some ⟨w.heap.size,0,none⟩) k cap')∧ ∃w0:World,w'.heap=w0.heap∧Below w.heap.size w w' ∧w0.heap[w.heap.size]? =some (.cells (cs++g).toArray 78 (0,0))
theorem InsNew.of {w:World} {k cap' :Nat} {cs g:List Value} (i:k≤cap') (j: ∀u∈g,u.oneCell' =true) (p:k*7+g.length=cap' *7):InsNew w k cs (.returned (.slice (some ⟨w.heap.size,0,none⟩) k cap')) (w.drew.alloc (.cells (cs++g).toArray 78)):=
 ⟨cap',g,i,j,p,rfl,_,rfl,((Below.refl _ _).drew).alloc (gA4 _) _,heap_alloc_new w.drew _⟩
set_option maxHeartbeats 4000000 in
set_option maxRecDepth 100000 in
theorem tE (g cap n:Nat) (i xc:List Value) (T U C:Nat) (w:World) (I:cap<n+1) (hb:(n+1)*104≤140737488355328) (hol:i.length=n*7) (hold: ∀(j:Nat) v,i[j]? =some v→w.cell? ⟨g,j,none⟩=some v)
  (hxl:xc.length=7) (hx: ∀(j:Nat) v,xc[j]? =some v→w.cell? ⟨T,U+j,none⟩=some v):
  Calls Tryz.prog 79 #[.slice (some ⟨g,0,none⟩) n cap,.int .i64 n,.slice (some ⟨T,U,none⟩) 1 C] w (InsNew w (n+1) (i++xc)):=by
 obtain ⟨i0,hi0,hz0,J,hzb⟩:=info_parts dA;have hge:=grownCap_ge w (n+1) cap 78;obtain ⟨cap',p⟩: ∃c,c=grownCap w (n+1) cap 78:=⟨_,rfl⟩
 obtain ⟨P,r⟩: ∃P,P=(Builtin.zeroCells fT.cells (grownCap w (n+1) cap 78-(n+1))).toList:=⟨_,rfl⟩
 have hz1: ∀u∈P,u.oneCell' =true:=by rw [r];exact dz (by simp [fT,Value.cells,Value.oneCell']) _
 have hz2:(n+1)*7+P.length=cap' *7:=by
  have:(fT.cells).size=7:=rfl;rw [r,p];simp only [Array.length_toList,size_zeroCells,this];rw [←gC3];congr 1;omega
 have R: ∀ty,(Builtin.append_ #[24,24] ty #[.slice (some ⟨g,0,none⟩) n cap,.slice (some ⟨T,U,none⟩) 1 C]).run Tryz.prog w= .ok (.slice (some ⟨w.heap.size,0,none⟩) (n+1) cap') (w.drew.alloc (.cells ((i++xc)++P).toArray 78)):=fun ty=>by
  have:=run_append_grow w 24 ty 78 i0 _ Tryz.underlying24 hi0 hz0 ⟨g,0,none⟩ n cap i (by rw [J];exact hol) (fun j u hj=>by rw [Addr.add_lit,Nat.zero_add];exact hold j u hj) ⟨T,U,none⟩ 1 C xc (by rw [J,hxl]) (fun j u hj=>by rw [Addr.add_lit];exact hx j u hj) I (by omega) (by rw [hzb];exact growslice_fits I hb);rw [this,p,r];congr 3;apply Array.ext';simp
 have hcg:n+1≤cap' :=by rw [p];exact hge
 clear p r
 go_enter Tryz.func79,Tryz.ntmps79
 go_wp2_with (at_builtin;refine Lib.wpList_append_run _ rfl _ _ _ _ rfl _ _ rfl rfl _ _ (R _) ?_)
 all_goals (go_ret;have:=InsNew.of (w:=w) (cs:=i++xc) hcg hz1 hz2;rw [List.append_assoc] at this;exact this)
set_option maxHeartbeats 4000000 in
set_option maxRecDepth 100000 in
theorem Ep (xc:List Value) (I J p:Nat) (w:World) (P:xc.length=7) (hx: ∀(j:Nat) v,xc[j]? =some v→w.cell? ⟨I,J+j,none⟩=some v):
  Calls Tryz.prog 79 #[.slice none 0 0,.int .i64 0,.slice (some ⟨I,J,none⟩) 1 p] w (InsNew w 1 xc):=by
 obtain ⟨i0,R,T,U,hzb⟩:=info_parts dA;have hge:=grownCap_ge w 1 0 78;obtain ⟨cap',g⟩: ∃c,c=grownCap w 1 0 78:=⟨_,rfl⟩
 obtain ⟨r,i⟩: ∃r,r=(Builtin.zeroCells fT.cells (grownCap w 1 0 78-1)).toList:=⟨_,rfl⟩
 have hz1: ∀u∈r,u.oneCell' =true:=by rw [i];exact dz (by simp [fT,Value.cells,Value.oneCell']) _
 have hz2:7+r.length=cap' *7:=by
  have:(fT.cells).size=7:=rfl;rw [i,g];simp only [Array.length_toList,size_zeroCells,this];omega
 have C: ∀ty,(Builtin.append_ #[24,24] ty #[.slice none 0 0,.slice (some ⟨I,J,none⟩) 1 p]).run Tryz.prog w= .ok (.slice (some ⟨w.heap.size,0,none⟩) 1 cap') (w.drew.alloc (.cells (xc++r).toArray 78)):=fun ty=>by
  have:=run_append_nil w 24 ty 78 i0 _ Tryz.underlying24 R T ⟨I,J,none⟩ 1 p xc (by rw [U,P]) (fun j u hj=>by rw [Addr.add_lit];exact hx j u hj) (by omega) (by omega) (by omega);rw [this,g,i];congr 3;apply Array.ext';simp
 have hcg:1≤cap' :=by rw [g];exact hge
 clear g i
 go_enter Tryz.func79,Tryz.ntmps79
 go_wp2_with (at_builtin;refine Lib.wpList_append_run _ rfl _ _ _ _ rfl _ _ rfl rfl _ _ (C _) ?_)
 go_ret
 have:=InsNew.of (w:=w) (k:=1) (cs:=xc) hcg hz1 (by omega);exact this
def Ag (w:World) (g cap k:Nat) (e:TypeId) (cs:List Value) (j:Ending) (w' :World):Prop:=j= .returned (.slice (some ⟨g,0,none⟩) k cap)∧BelowBut g w w' ∧ ∃i:Array Value,w'.heap[g]? =some (.cells i e (0,0))∧i.toList=cs
theorem mF {g:Nat} {w w' :World} (i:w'.os=w.os) (j:w'.tape=w.tape) (p:w'.output=w.output) (cs:Array Value) (h:w'.heap=(w.setRow g cs).heap):BelowBut g w w' :=
 ⟨i,j,p,by rw [h];simp [World.setRow],fun k _ r=>by rw [h];exact setRow_other w g k cs r⟩
theorem nU (w:World) (g:Nat) (c a b:Array Value) {e:TypeId} (hg:w.heap[g]? =some (.cells c e (0,0))):((w.setRow g a).setRow g b).heap=(w.setRow g b).heap:=by
 apply Array.ext_getElem?;intro k;by_cases i:k=g
 ·subst i
  rw [setRow_heap _ k a b e (0,0) (setRow_heap _ k c a e (0,0) hg),setRow_heap _ k c b e (0,0) hg]
 ·rw [setRow_other _ g k b i,setRow_other _ g k a i,setRow_other _ g k b i]
set_option maxHeartbeats 4000000 in
set_option maxRecDepth 100000 in
theorem Ah (g cap n i:Nat) (e:TypeId) (p:Array Value) (xc:List Value) (xb xo C:Nat) (w:World) (hg:w.heap[g]? =some (.cells p e (0,0))) (hsz:p.size=cap*7) (hroom:n+1≤cap) (hi:i<n) (hone: ∀u∈p.toList,u.oneCell' =true) (hn63:n≤9000000000000000000)
  (hxl:xc.length=7) (hx: ∀(j:Nat) v,xc[j]? =some v→w.cell? ⟨xb,xo+j,none⟩=some v) (h1: ∀v∈xc,v.oneCell' =true) (hne:xb≠g)
  (hov: ∀lb cb,(callFunc 132 #[.slice (some ⟨xb,xo,none⟩) 1 C,.slice (some ⟨g,(i+1)*7,none⟩) lb cb]).run Tryz.prog w= .ok (.value (.bool false)) w):
  Calls Tryz.prog 79 #[.slice (some ⟨g,0,none⟩) n cap,.int .i64 i,.slice (some ⟨xb,xo,none⟩) 1 C] w
   (Ag w g cap (n+1) e (p.toList.take (i*7)++xc++(p.toList.drop (i*7)).take ((n-i)*7)++p.toList.drop ((n+1)*7))):=by
 obtain ⟨i0,hi0,hz0,hzs,hzb⟩:=info_parts dA;have hz2: ¬((i:Int)=(n:Int)):=by omega
 have hw1:IntKind.i64.wrap ((i:Int)+1)=(i:Int)+1:=by rw [IntKind.wrap_i64];omega
 have hw2:IntKind.i64.wrap ((n:Int)+1)=(n:Int)+1:=by rw [IntKind.wrap_i64];omega
 have T:p.toList.length=cap*7:=by simpa using hsz
 have hle1:(n+1)*7≤cap*7:=Nat.mul_le_mul_right _ hroom
 obtain ⟨r,I,J,P,hfin⟩: ∃r:Array Value,(∀ty U sc,(Builtin.copy_ #[24,24] ty #[.slice (some ⟨g,(i+1)*7,none⟩) (n-i) U,.slice (some ⟨g,i*7,none⟩) (n+1-i) sc]).run Tryz.prog w.drew= .ok (goInt ((n-i:Nat):Int)) (w.drew.setRow g r))∧
   ∃J:Array Value,(∀ty U,(Builtin.copy_ #[24,24] ty #[.slice (some ⟨g,i*7,none⟩) (n+1-i) U,.slice (some ⟨xb,xo,none⟩) 1 C]).run Tryz.prog (w.drew.setRow g r)= .ok (goInt ((1:Nat):Int)) ((w.drew.setRow g r).setRow g J))∧
    Ag w g cap (n+1) e (p.toList.take (i*7)++xc++(p.toList.drop (i*7)).take ((n-i)*7)++p.toList.drop ((n+1)*7)) (.returned (.slice (some ⟨g,0,none⟩) (n+1) cap)) ((w.drew.setRow g r).setRow g J):=by
  have R:((p.toList.drop (i*7)).take ((n-i)*7)).length=(n-i)*7:=by
   rw [gA7,gA6,T];omega
  have I: ∀ty U sc,_:=fun ty U sc=>ci w.drew 24 24 ty 78 i0 Tryz.underlying24 hi0 g ((i+1)*7) (n-i) U e p hg ⟨g,i*7,none⟩ (n+1-i) sc (n-i) (by simp only [Nat.min_def];split<;>omega) ((p.toList.drop (i*7)).take ((n-i)*7)) (by rw [hzs];exact R) (fun j u hj=>by
   rw [Addr.add_lit,show w.drew.cell? ⟨g,i*7+j,none⟩=w.cell? ⟨g,i*7+j,none⟩ from rfl,cell_of_row w g _ p e (0,0) hg];rw [List.getElem?_take] at hj;split at hj
   ·rw [List.getElem?_drop] at hj
    simpa using hj
   ·cases hj) (fun u hu=>hone u (List.mem_of_mem_drop (List.mem_of_mem_take hu))) (by rw [R,hsz];omega)
  refine ⟨_,I,?_⟩;generalize hcur1:(p.toList.take ((i+1)*7)++(p.toList.drop (i*7)).take ((n-i)*7)++p.toList.drop ((i+1)*7+((p.toList.drop (i*7)).take ((n-i)*7)).length)).toArray=r;have hc1:r.toList=p.toList.take ((i+1)*7)++(p.toList.drop (i*7)).take ((n-i)*7)++p.toList.drop ((i+1)*7+((p.toList.drop (i*7)).take ((n-i)*7)).length):=by rw [←hcur1]
  have hc1l:r.size=cap*7:=by
   have:r.toList.length=cap*7:=by
    rw [hc1];simp only [gA5,gA7,gA6,T];omega
   simpa using this
  have hg1:(w.drew.setRow g r).heap[g]? =some (.cells r e (0,0)):=setRow_heap w.drew g p r e (0,0) hg
  have P: ∀ty U,_:=fun ty U=>ci (w.drew.setRow g r) 24 24 ty 78 i0 Tryz.underlying24 hi0 g (i*7) (n+1-i) U e r hg1 ⟨xb,xo,none⟩ 1 C 1 (by simp only [Nat.min_def];split<;>omega) xc (by rw [hzs];exact hxl) (fun j u hj=>by
   rw [Addr.add_lit,cell_setRow_other _ g _ ⟨xb,xo+j,none⟩ hne];exact hx j u hj) h1 (by rw [hxl,hc1l];omega)
  refine ⟨_,P,rfl,mF rfl rfl rfl _ (nU w.drew g p _ _ hg),_,setRow_heap (w.drew.setRow g r) g r _ e (0,0) hg1,?_⟩;have hl1:(p.toList.take ((i+1)*7)).length=(i+1)*7:=by rw [gA7,T];omega
  have e1:r.toList.take (i*7)=p.toList.take (i*7):=by
   rw [hc1,List.append_assoc,List.take_append_of_le_length (by omega),List.take_take];congr 1;omega
  have e2:r.toList.drop (i*7+xc.length)=(p.toList.drop (i*7)).take ((n-i)*7)++p.toList.drop ((n+1)*7):=by
   rw [hc1,hxl,List.append_assoc,show i*7+7=(p.toList.take ((i+1)*7)).length by omega,List.drop_left,R];congr 2;omega
  rw [e1,e2];simp
 have hn0:n-i≤n:=by omega
 clear T hle1 hsz hg
 go_enter Tryz.func79,Tryz.ntmps79
 go_wp2_with (simp only [hov])
 have mixed:Tryz.prog.follows .mixedOrders=true:=by kernel_rfl
 have hb1:(0:Int)≤(i:Int)+1:=by omega
 have hin:i≤n:=by omega
 have htn:((i:Int)+1).toNat=i+1:=by omega
 have hb2: ¬(cap=i+1):=by omega
 have hb3:(i:Int)≤(n:Int)+1:=by omega
 have hb4: ¬(cap=i):=by omega
 have hb5:i≤n+1:=by omega
 go_region_law_o (refine step_copy_runI rfl _ _ 24 24 rfl _ _ (by simp [Act.eval,Act.put]) (by simp [Act.eval,Act.put]) (I _ _ _) ?_)
 go_wp2_with (at_builtin;refine wpList_copy_runI _ rfl _ _ 24 24 rfl _ _ rfl rfl (P _ _) ?_)
 go_ret
 exact hfin
set_option maxHeartbeats 4000000 in
set_option maxRecDepth 100000 in
theorem B9 (g cap n i:Nat) (e:TypeId) (p:Array Value) (xc:List Value) (xb xo R:Nat) (w:World) (hg:w.heap[g]? =some (.cells p e (0,0))) (hsz:p.size=cap*7) (hnc:n≤cap) (hroom:cap<n+1) (hb:(n+1)*104≤140737488355328) (hi:i<n) (hone: ∀u∈p.toList,u.oneCell' =true)
  (C:xc.length=7) (hx: ∀(j:Nat) v,xc[j]? =some v→w.cell? ⟨xb,xo+j,none⟩=some v) (h1: ∀v∈xc,v.oneCell' =true):
  Calls Tryz.prog 79 #[.slice (some ⟨g,0,none⟩) n cap,.int .i64 i,.slice (some ⟨xb,xo,none⟩) 1 R] w
   (InsNew w (n+1) (p.toList.take (i*7)++xc++(p.toList.drop (i*7)).take ((n-i)*7))):=by
 obtain ⟨i0,hi0,hz0,hzs,hzb⟩:=info_parts dA;have hz2: ¬((i:Int)=(n:Int)):=by omega
 have hz3:(cap:Int)<(n:Int)+1:=by omega
 have hcl:p.toList.length=cap*7:=by simpa using hsz
 have hle1:n*7≤cap*7:=Nat.mul_le_mul_right _ hnc;have hge:=grownCap_ge w (n+1) cap 78;have hgw:g<w.heap.size:=(gC0 hg).1
 obtain ⟨G,hGn,W1,W2,W3,I,hA,hB,hfin⟩: ∃G,n+1≤G∧ ∃W1 W2 W3:World,(∀ty,(Builtin.append_ #[24,3] ty #[.slice (some ⟨g,0,none⟩) i cap,.int .i64 ((n:Int)+1-(i:Int))]).run Tryz.prog w= .ok (.slice (some ⟨w.heap.size,0,none⟩) (n+1) G) W1)∧
   (∀ty dc,(Builtin.copy_ #[24,24] ty #[.slice (some ⟨w.heap.size,i*7,none⟩) (n+1-i) dc,.slice (some ⟨xb,xo,none⟩) 1 R]).run Tryz.prog W1= .ok (goInt ((1:Nat):Int)) W2)∧
   (∀ty dc sc,(Builtin.copy_ #[24,24] ty #[.slice (some ⟨w.heap.size,(i+1)*7,none⟩) (n-i) dc,.slice (some ⟨g,i*7,none⟩) (n-i) sc]).run Tryz.prog W2.drew= .ok (goInt ((n-i:Nat):Int)) W3)∧
   InsNew w (n+1) (p.toList.take (i*7)++xc++(p.toList.drop (i*7)).take ((n-i)*7)) (.returned (.slice (some ⟨w.heap.size,0,none⟩) (n+1) G)) W3:=by
  have hold:(Builtin.firstCells i0.size i (.slice (some ⟨g,0,none⟩) i cap)).run Tryz.prog w.drew= .ok (p.toList.take (i*7)).toArray w.drew:=by
   rw [hzs]
   exact run_firstCells_some w.drew 7 i ⟨g,0,none⟩ i cap (p.toList.take (i*7)) (by rw [gA7];omega) (fun j v P=>by
    rw [Addr.add_lit,Nat.zero_add,show w.drew.cell? ⟨g,j,none⟩=w.cell? ⟨g,j,none⟩ from rfl,cell_of_row w g _ p e (0,0) hg];rw [List.getElem?_take] at P;split at P
    ·simpa using P
    ·cases P)
  have hkk:(n:Int)+1-(i:Int)=((n+1-i:Nat):Int):=by omega
  have hik:i+(n+1-i)=n+1:=by omega
  have I: ∀ty,_:=fun ty=>Lib.run_append_grow_zeros w 24 3 ty 78 i0 _ .i64 .i64 Tryz.underlying24 Tryz.underlying3 hi0 hz0 (some ⟨g,0,none⟩) i cap (p.toList.take (i*7)) hold (n+1-i) (by omega) (by omega) (by omega) (by omega) (by rw [hzb];omega) (by rw [hzb,hik];exact growslice_fits hroom hb)
  simp only [hik] at I
  have hzl: ∀k,(Builtin.zeroCells fT.cells k).toList.length=k*7:=fun k=>by
   have:(fT.cells).size=7:=rfl;simp only [Array.length_toList,size_zeroCells,this]
  have hzo: ∀k,∀u∈(Builtin.zeroCells fT.cells k).toList,u.oneCell' =true:=fun k=>dz (by simp [fT,Value.cells,Value.oneCell']) k
  generalize grownCap w (n+1) cap 78=G at*;generalize hZ1:Builtin.zeroCells fT.cells (n+1-i)=Z1 at I;generalize hZ2:Builtin.zeroCells fT.cells (G-(n+1))=Z2 at I;have l1:Z1.toList.length=(n+1-i)*7:=by rw [←hZ1];exact hzl _
  have l2:Z2.toList.length=(G-(n+1))*7:=by rw [←hZ2];exact hzl _
  have o2: ∀u∈Z2.toList,u.oneCell' =true:=by rw [←hZ2];exact hzo _
  have lt:(p.toList.take (i*7)).length=i*7:=by rw [gA7];omega
  generalize hROW:(p.toList.take (i*7)).toArray++Z1++Z2=r at I;have hRl:r.toList=p.toList.take (i*7)++Z1.toList++Z2.toList:=by rw [←hROW];simp
  have hRs:r.size=G*7:=by
   have:r.toList.length=G*7:=by rw [hRl,gA5,gA5,lt,l1,l2];omega
   simpa using this
  have hN1:(w.drew.alloc (.cells r 78)).heap[w.heap.size]? =some (.cells r 78 (0,0)):=heap_alloc_new w.drew _
  have hW1c: ∀(b o:Nat) v,w.cell? ⟨b,o,none⟩=some v→(w.drew.alloc (.cells r 78)).cell? ⟨b,o,none⟩=some v:=fun b o v h=>by
   rw [World.cell?_alloc_lt w.drew _ _ (World.block_lt_of_cell? w.drew _ h)];exact h
  have hne: ∀(b o:Nat) v,w.cell? ⟨b,o,none⟩=some v→b≠w.heap.size:=fun b o v h e=>by
   have:=World.block_lt_of_cell? w _ h;simp only at this;omega
  have hA: ∀ty dc,_:=fun ty dc=>ci (w.drew.alloc (.cells r 78)) 24 24 ty 78 i0 Tryz.underlying24 hi0 w.heap.size (i*7) (n+1-i) dc 78 r hN1 ⟨xb,xo,none⟩ 1 R 1 (by simp only [Nat.min_def];split<;>omega) xc (by rw [hzs];exact C) (fun j u P=>by
   rw [Addr.add_lit];exact hW1c _ _ _ (hx j u P)) h1 (by rw [C,hRs];omega)
  generalize hRA:(r.toList.take (i*7)++xc++r.toList.drop (i*7+xc.length)).toArray=J at hA
  have T:J.toList=p.toList.take (i*7)++xc++r.toList.drop (i*7+7):=by
   rw [←hRA,hRl,List.append_assoc (p.toList.take (i*7)),List.take_append_of_le_length (by omega),List.take_of_length_le (by omega),C]
  have hRAs:J.size=G*7:=by
   have:J.toList.length=G*7:=by rw [T,gA5,gA5,lt,C,gA6];simp only [Array.length_toList,hRs];omega
   simpa using this
  have hN2:((w.drew.alloc (.cells r 78)).setRow w.heap.size J).heap[w.heap.size]? =some (.cells J 78 (0,0)):=setRow_heap _ _ r J 78 (0,0) hN1
  have U:((p.toList.drop (i*7)).take ((n-i)*7)).length=(n-i)*7:=by
   rw [gA7,gA6,hcl];omega
  have hB: ∀ty dc sc,_:=fun ty dc sc=>ci ((w.drew.alloc (.cells r 78)).setRow w.heap.size J).drew 24 24 ty 78 i0 Tryz.underlying24 hi0 w.heap.size ((i+1)*7) (n-i) dc 78 J hN2 ⟨g,i*7,none⟩ (n-i) sc (n-i) (by simp only [Nat.min_def];split<;>omega) ((p.toList.drop (i*7)).take ((n-i)*7)) (by rw [hzs];exact U) (fun j u P=>by
   have h2:w.cell? ⟨g,i*7+j,none⟩=some u:=by
    rw [cell_of_row w g _ p e (0,0) hg];rw [List.getElem?_take] at P;split at P
    ·rw [List.getElem?_drop] at P
     simpa using P
    ·cases P
   rw [Addr.add_lit];exact (cell_setRow_other (w.drew.alloc (.cells r 78)) w.heap.size J ⟨g,i*7+j,none⟩ (hne _ _ _ h2)).trans (hW1c _ _ _ h2)) (fun u hu=>hone u (List.mem_of_mem_drop (List.mem_of_mem_take hu))) (by rw [U,hRAs];omega)
  refine ⟨G,hge,_,_,_,(fun ty=>by rw [hkk];exact I ty),hA,hB,G,Z2.toList,hge,o2,by rw [l2];omega,rfl,_,rfl,?_,?_⟩
  ·refine Below.trans (b:=(w.drew.alloc (.cells r 78))) (((Below.refl _ _).drew).alloc (gA4 _) _) ?_
   exact ⟨rfl,rfl,rfl,by simp [World.setRow],fun k hk=>(setRow_other _ _ k _ (by omega)).trans (setRow_other _ _ k _ (by omega))⟩
  ·have h3:=setRow_heap ((w.drew.alloc (.cells r 78)).setRow w.heap.size J).drew w.heap.size J (J.toList.take ((i+1)*7)++(p.toList.drop (i*7)).take ((n-i)*7)++J.toList.drop ((i+1)*7+((p.toList.drop (i*7)).take ((n-i)*7)).length)).toArray 78 (0,0) hN2
   refine h3.trans ?_;congr 2
   have e1:J.toList.take ((i+1)*7)=p.toList.take (i*7)++xc:=by
    rw [T,List.take_append_of_le_length (by rw [gA5,lt,C];omega),List.take_of_length_le (by rw [gA5,lt,C];omega)]
   have e2:J.toList.drop ((i+1)*7+((p.toList.drop (i*7)).take ((n-i)*7)).length)=Z2.toList:=by
    rw [T,hRl,U];rw [show (i+1)*7+(n-i)*7=(p.toList.take (i*7)++xc).length+(n-i)*7 by rw [gA5,lt,C];omega,←List.drop_drop,List.drop_left,List.drop_drop];rw [show i*7+7+(n-i)*7=(p.toList.take (i*7)++Z1.toList).length by rw [gA5,lt,l1];omega,List.drop_left]
   rw [e1,e2]
 have hn0:n-i≤n:=by omega
 clear hcl hle1 hsz hg hge;have hw1:IntKind.i64.wrap ((i:Int)+1)=(i:Int)+1:=by rw [IntKind.wrap_i64];omega
 have hw2:IntKind.i64.wrap ((n:Int)+1)=(n:Int)+1:=by rw [IntKind.wrap_i64];omega
 have hw3:IntKind.i64.wrap ((n:Int)+1-i)=(n:Int)+1-i:=by rw [IntKind.wrap_i64];omega
 have mixed:Tryz.prog.follows .mixedOrders=true:=by kernel_rfl
 have hb1:(0:Int)≤(i:Int)+1:=by omega
 have hin:i≤n:=by omega
 have htn:((i:Int)+1).toNat=i+1:=by omega
 have hGi: ¬(G=i):=by omega
 have hGim: ¬(G=i+1):=by omega
 have hci: ¬(cap=i):=by omega
 have hb3:(i:Int)≤(n:Int)+1:=by omega
 have hb5:i≤n+1:=by omega
 have hb6:i≤cap:=by omega
 go_enter Tryz.func79,Tryz.ntmps79
 go_wp2_with (first
  |(at_builtin;refine Lib.wpList_append_run _ rfl _ _ _ _ rfl _ _ rfl rfl _ _ (I _) ?_)
  |(at_builtin;refine wpList_copy_runI _ rfl _ _ 24 24 rfl _ _ rfl rfl (hA _ _) ?_))
 go_region_law_o (refine step_copy_runI rfl _ _ 24 24 rfl _ _ (by simp [Act.eval,Act.put]) (by simp [Act.eval,Act.put]) (hB _ _ _) ?_)
 go_wp2
 go_ret
 exact hfin
end
section
open Go.RowKit
theorem f8 {esz:Nat}: ∀{rows:List (List AV)} (i:Nat),(∀c∈rows,c.length=esz)→(rows.take i).flatten=rows.flatten.take (i*esz)
 | [],i,_=>by simp
 |c::rows,0,_=>by simp
 |c::rows,i+1,h=>by
  have g:=h c (by simp);rw [List.take_succ_cons,List.flatten_cons,List.flatten_cons,f8 i fun c g=>h c (by simp [g]),List.take_append,g,List.take_of_length_le (l:=c) (by rw [g,gC3];omega),show (i+1)*esz-esz=i*esz by rw [gC3];omega]
theorem ga {esz:Nat}: ∀{rows:List (List AV)} (i:Nat),(∀c∈rows,c.length=esz)→(rows.drop i).flatten=rows.flatten.drop (i*esz)
 | [],i,_=>by simp
 |c::rows,0,_=>by simp
 |c::rows,i+1,h=>by
  have g:=h c (by simp);rw [List.drop_succ_cons,List.flatten_cons,ga i fun c g=>h c (by simp [g]),List.drop_append,g,List.drop_of_length_le (l:=c) (by rw [g,gC3];omega),show (i+1)*esz-esz=i*esz by rw [gC3];omega,List.nil_append]
theorem di {esz:Nat}: ∀{rows:List (List AV)},(∀c∈rows,c.length=esz)→rows.flatten.length=rows.length*esz
 | [],_=>by simp
 |c::rows,h=>by rw [List.flatten_cons,gA5,gA3,di fun c g=>h c (by simp [g]),h c (by simp),gC3];omega
theorem F3 {σ:Sg} {rows:List (List AV)} {c:List AV} {g xc:List Value} {i:Nat} (hl: ∀c∈rows,c.length=7) (hi:i≤rows.length) (h:RelL σ (g.take (rows.length*7)) rows.flatten) (r:RelL σ xc c):
  RelL σ (g.take (i*7)++xc++(g.drop (i*7)).take ((rows.length-i)*7)) (rows.take i++c::rows.drop i).flatten:=by
 rw [List.flatten_append,List.flatten_cons,f8 i hl,ga i hl,←List.append_assoc];have j:=h.take (i*7);have p:=h.drop (i*7);rw [List.take_take,Nat.min_eq_left (by omega)] at j;rw [List.drop_take,show rows.length*7-i*7=(rows.length-i)*7 by omega] at p;exact (j.append r).append p
theorem F4 {rows:List (List AV)} {c:List AV} {i:Nat} (hl: ∀c∈rows,c.length=7) (j:c.length=7) (hi:i≤rows.length):(rows.take i++c::rows.drop i).length=rows.length+1∧ ∀d∈rows.take i++c::rows.drop i,d.length=7:=by
 constructor
 ·simp;omega
 ·intro d g
  rcases gB5 g with g|g
  ·exact hl d (List.mem_of_mem_take g)
  ·rcases gB2 g with rfl|g
   ·exact j
   ·exact hl d (List.mem_of_mem_drop g)
abbrev InsPost (σ:Sg) (w:World) (g:Nat) (rows' :List (List AV)) (e:Ending) (w' :World):Prop:= ∃σ' g' cap',e= .returned (.slice (some ⟨g',0,none⟩) rows'.length cap')∧Ext σ σ' w.heap.size∧Holds σ' w' ∧BelowBut g w w' ∧(g' =g∨w.heap.size≤g')∧FRowW σ' w' g' cap' 7 rows'
theorem Ca {σ:Sg} {w w' :World} {g cap i:Nat} {e:TypeId} {rows:List (List AV)} {c:List AV} {p:Array Value} {xc:List Value} {e' :Ending} (hh:Holds σ w) (hsz:p.size=cap*7) (I:rows.length+1≤cap) (hl: ∀c∈rows,c.length=7) (hc:c.length=7) (hi:i≤rows.length)
  (h:RelL σ (p.toList.take (rows.length*7)) rows.flatten) (R: ∀u∈p.toList,u.oneCell' =true) (C: ∀j,σ g j=none) (hx:RelL σ xc c)
  (hs:Ag w g cap (rows.length+1) e (p.toList.take (i*7)++xc++(p.toList.drop (i*7)).take ((rows.length-i)*7)++p.toList.drop ((rows.length+1)*7)) e' w'):InsPost σ w g (rows.take i++c::rows.drop i) e' w' :=by
 obtain ⟨he,hb,J,hg',r⟩:=hs;obtain ⟨l1,l2⟩:=F4 (c:=c) (i:=i) hl hc hi;have hr:=F3 (xc:=xc) hl hi h hx;have hcl:p.toList.length=cap*7:=by simpa using hsz
 have hle:(rows.length+1)*7≤cap*7:=Nat.mul_le_mul_right _ I
 have T:(p.toList.take (i*7)++xc++(p.toList.drop (i*7)).take ((rows.length-i)*7)).length=(rows.length+1)*7:=by
  rw [hr.1,di l2,l1]
 refine ⟨σ,g,cap,by rw [he,l1],Ext.refl _ _,fun b q v hv=> ?_,hb,.inl rfl,e,J,hg',?_,by rw [l1];exact I,l2,?_,fun u P=> ?_,C⟩
 ·have h1:=hh _ _ _ hv
  have hne:b≠g:=fun e=>by rw [e,C] at hv;cases hv
  have U:=World.block_lt_of_cell? w _ h1;simp only at U;rw [←h1];unfold World.cell?;simp only;rw [hb.block b U hne]
 ·have:J.toList.length=cap*7:=by
   rw [r,gA5,T,gA6,hcl];omega
  simpa using this
 ·rw [l1,r,←T,List.take_left]
  exact hr
 ·rw [r] at P
  rcases gB5 P with P|P
  ·exact hr.one u P
  ·exact R u (List.mem_of_mem_drop P)
theorem F5 {σ:Sg} {w w' :World} {k:Nat} {cs:List Value} {rows:List (List AV)} {P:Ending} (r:Holds σ w) (C:rows.length=k) (hl: ∀c∈rows,c.length=7) (hr:RelL σ cs rows.flatten) (I:InsNew w k cs P w'):
  ∃σ' g cap,P= .returned (.slice (some ⟨g,0,none⟩) rows.length cap)∧Ext σ σ' w.heap.size∧Holds σ' w' ∧Below w.heap.size w w' ∧w.heap.size≤g∧FRowW σ' w' g cap 7 rows:=by
 obtain ⟨cap',zs,h1,T,h3,U,w0,hw,hb,hg⟩:=I;have J:cs.length=k*7:=by rw [hr.1,di hl,C]
 refine ⟨σ,w.heap.size,cap',by rw [U,C],Ext.refl _ _,fun b q v R=>(hb.cell (p:=⟨b,q,none⟩) (World.block_lt_of_cell? w _ (r _ _ _ R))).trans (r _ _ _ R),hb,gA4 _,78,_,by rw [hw];exact hg,?_,by omega,hl,?_,fun u i=> ?_,fun j=> ?_⟩
 ·simp only [List.size_toArray,gA5]
  omega
 ·rw [C,←J]
  simpa using hr
 ·rcases gB5 (by simpa using i) with i|i
  ·exact hr.one u i
  ·exact T u i
 ·cases I:σ w.heap.size j with
  |none=>rfl
  |some v=>
   have:=World.block_lt_of_cell? w _ (r _ _ _ I);simp at this
theorem F6 {σ:Sg} {w:World} (R:Holds σ w) {vs:List Value} {i:Int} {c:List AV} (hr:RelPs σ vs [.int .i64 i,.lst .any 7 [c]]): ∃(g r C:Nat) (xc:List Value),vs= [.int .i64 i,.slice (some ⟨r,C,none⟩) 1 g]∧xc.length=7∧c.length=7∧RelL σ xc c∧(∀(j:Nat) v,xc[j]? =some v→w.cell? ⟨r,C+j,none⟩=some v)∧ ∃v,σ r C=some v:=by
 have hl:vs.length=2:=hr.1
 obtain ⟨v1,v2,rfl⟩: ∃a b,vs= [a,b]:=by
  rcases vs with _|⟨a,_|⟨b,_|⟨d,l⟩⟩⟩<;>simp at hl
  exact ⟨a,b,rfl⟩
 have T:Rel1 σ v1 (.int .i64 i):=hr.2 0 v1 _ rfl rfl;have U:Rel1 σ v2 (.lst .any 7 [c]):=hr.2 1 v2 _ rfl rfl;cases T;obtain ⟨A,g,r,C,xc,rfl,P,hA,hsz,I,hrel,p⟩:=cd U;have:=hA (by simp);subst this;have hc:=hsz c (by simp);have J:xc.length=7:=by simpa using I
 refine ⟨g,r,C,xc,rfl,J,hc,by simpa using hrel,fun j v hv=>R _ _ _ (p j v hv),?_⟩;have h0:xc[0]? =some xc[0]:=gA1 (by omega);exact ⟨_,p 0 _ h0⟩
theorem Hj (c:List AV):MN Tryz.prog 79 [.int .i64 0,.lst .any 7 [c]] 7 [c]:=by
 refine ⟨by kernel_rfl,fun σ w vs r hr hg=> ?_⟩;obtain ⟨g,C,I,xc,rfl,i,J,j,p,_⟩:=F6 r hr;exact (Ep xc C I g w i p).mono fun e w' h=>F5 r rfl (by simpa using J) (by simpa using j) h
theorem Hk (rows:List (List AV)) (i:Nat) (c:List AV) (hi:i≤rows.length) (hb:(rows.length+1)*104≤140737488355328):
  MR Tryz.prog 79 7 rows [.int .i64 i,.lst .any 7 [c]] (rows.take i++c::rows.drop i):=by
 refine ⟨by kernel_rfl,fun σ w g cap vs hh hF hr hg=> ?_⟩;obtain ⟨C,xb,xo,xc,rfl,T,hc,R,U,xv,hxs⟩:=F6 hh hr;obtain ⟨e,p,hg,hsz,hcap,hl,hrel,P,J⟩:=hF;have hcl:p.toList.length=cap*7:=by simpa using hsz
 obtain ⟨l1,l2⟩:=F4 (c:=c) (i:=i) hl hc hi;have hr' :=F3 (xc:=xc) hl hi hrel R;have hgw:g<w.heap.size:=(gC0 hg).1
 have I: ∀e' w',InsNew w (rows.length+1) (p.toList.take (i*7)++xc++(p.toList.drop (i*7)).take ((rows.length-i)*7)) e' w' →InsPost σ w g (rows.take i++c::rows.drop i) e' w' :=fun e' w' h=>by
  obtain ⟨σ',g',cap',k1,k2,k3,k4,k5,k6⟩:=F5 hh l1 l2 hr' h;exact ⟨σ',g',cap',k1,k2,k3,⟨k4.os,k4.tape,k4.output,k4.size,fun k hk _=>k4.block k hk⟩,.inr k5,k6⟩
 by_cases r:rows.length+1≤cap
 ·have hle:(rows.length+1)*7≤cap*7:=Nat.mul_le_mul_right _ r
  by_cases hin:i=rows.length
  ·subst hin
   refine (tD g cap rows.length e p xc xb xo C w hg hsz r T U R.one).mono fun e' w' h=> ?_
   obtain ⟨h1,rfl⟩:=h;refine Ca (i:=rows.length) hh hsz r hl hc (gA4 _) hrel P J R (e:=e) ⟨h1,mF rfl rfl rfl _ rfl,_,setRow_heap w g p _ e (0,0) hg,?_⟩
   ·rw [Nat.sub_self,Nat.zero_mul,List.take_zero,List.append_nil,gC3]
  ·have hne:xb≠g:=fun e=>by rw [e,J] at hxs;cases hxs
   obtain ⟨tA,kA,hsa⟩:=nT (hh _ _ _ hxs);obtain ⟨kB,hkB⟩: ∃kB,p.size=kB+1:=⟨p.size-1,by omega⟩
   have hsb:w.shape? g=some (e,kB+1):=by unfold World.shape?;rw [hg,←hkB]
   have hov: ∀lb cb,(callFunc 132 #[.slice (some ⟨xb,xo,none⟩) 1 C,.slice (some ⟨g,(i+1)*7,none⟩) lb cb]).run Tryz.prog w= .ok (.value (.bool false)) w:=fun lb cb=>by
    rw [run_callFunc_extern Tryz.func132 (by kernel_rfl) (by kernel_rfl) (by kernel_rfl) (e:=Extern.SlicesOverlaps.overlaps #[24,24] #[4]) (by kernel_rfl),
     je w 24 4 78 Tryz.underlying24 7 (fun w=>by obtain ⟨i0,hi0,hz0,hzs,hzb⟩:=info_parts dA;simp [sizeOf,typeInfo,hi0,hzs]) ⟨xb,xo,none⟩ ⟨g,(i+1)*7,none⟩ 1 C lb cb hne tA e kA kB hsa hsb (by unfold World.frozen?;rw [hg];simp) (by unfold World.frozen?;rw [hg];simp)]
    rfl
   exact (Ah g cap rows.length i e p xc xb xo C w hg hsz r (by omega) P (by omega) T U R.one hne hov).mono fun e' w' h=>Ca hh hsz r hl hc hi hrel P J R h
 ·by_cases hin:i=rows.length
  ·subst hin
   refine (tE g cap rows.length (p.toList.take (rows.length*7)) xc xb xo C w (by omega) hb (by rw [gA7];have:rows.length*7≤cap*7:=Nat.mul_le_mul_right _ hcap;omega) (fun j v hj=> ?_) T U).mono fun e' w' h=>I e' w' ?_
   ·rw [cell_of_row w g _ p e (0,0) hg]
    rw [List.getElem?_take] at hj;split at hj
    ·simpa using hj
    ·cases hj
   ·rw [Nat.sub_self,Nat.zero_mul,List.take_zero,List.append_nil]
    exact h
  ·exact (B9 g cap rows.length i e p xc xb xo C w hg hsz hcap (by omega) hb (by omega) P T U R.one).mono I
end
end Go.Proofs.YtbgflifmanjpjaaGreatDoor
