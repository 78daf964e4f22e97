/- Part 49. -/
import Derived.Test.YtbgflifmanjpjaaGreatDoorS48
set_option linter.unusedSimpArgs false
set_option linter.unusedVariables false
namespace Go.Proofs.YtbgflifmanjpjaaGreatDoor
section
open Go.RowKit
inductive OT where
 |fin
 |one (e:Bool) (i:Nat) (o:OT)
 |two (i j:Nat) (oi oj:OT)
def OT.len:OT→Nat
 | .fin=>0
 | .one _ _ o=>o.len+1
 | .two _ _ a b=>max a.len b.len+1
def Ch (ds:List (List Nat)) (S:List (GI×Option RS)) (X:Nat→Option XSpec):OT→Array Bool→Bool
 | .fin,listed=>(rdy ds listed).isEmpty
 | .one e i o,listed=>(rdy ds listed).contains i&&(match S[i]? with
  |some (p,_)=>(!e||(X i).isNone)&&(List.range ds.length).all fun j=>Nat.beq j i||listed.getD j true||HZ ds ds.length j i||(match S[j]? with
   |some (g,r)=>(X i).isNone&&(((X j).isNone&&ku p g)||(e&&((tx g&&(jE p g&&rsT r (X j)))||(Ad g&&(jE p g&&(X j).isSome)))))
   |none=>false)
  |none=>false)&&Ch ds S X o (listed.setIfInBounds i true)
 | .two i j oi oj,listed=>(rdy ds listed).contains i&&(rdy ds listed).all (fun k=>Nat.beq k i||Nat.beq k j)&&Ch ds S X oi (listed.setIfInBounds i true)&&Ch ds S X oj (listed.setIfInBounds j true)
def Ci (P:Program) (S:List (GI×Option RS)) (X:Nat→Option XSpec) (R:Fr→St→Prop):OT→Fr→St→Prop
 | .fin,fr,st=>R fr st
 | .one e i o,fr,st=>match S[i]? with
  |none=>False
  |some (x,rs)=>match e with
   |true=>match da x fr st with
    |some (d,a,b)=>match b with
     |none=>Ci P S X R o (az fr d a) st
     |some _=>False
    |none=>False
   |false=>iD P (X i) x rs fr st fun f s=>Ci P S X R o f s
 | .two i j oi oj,fr,st=>match S[i]?,S[j]? with
  |some (x,rs),some (y,g)=>iD P (X i) x rs fr st (fun f s=>Ci P S X R oi f s)∧iD P (X j) y g fr st (fun f s=>Ci P S X R oj f s)
  |_,_=>False
theorem Ir {g:Option RS} {i:Option XSpec} (h:rsT g i=true):okC g i none=true:=by
 cases i with
 |some sp=>rfl
 |none=>
  cases g with
  |none=>cases h
  |some r=>cases r<;>first|rfl|cases h
theorem dq {P:Program} {g:Array Oper} {S:List (GI×Option RS)} {X:Nat→Option XSpec} {R:Fr→St→Prop}: ∀(o:OT) (n:Nat) (listed:Array Bool) (fr:Fr) (st:St),o.len≤n→ClosedL g listed→Ch (bA g) S X o listed=true→Ci P S X R o fr st→Ac P g S X R n listed fr st
 | .fin,n,listed,fr,st,_,_,hc,h=>by
  have he:Region.ready .any g listed= []:=List.eq_nil_iff_forall_not_mem.2 fun j hj=>by
   have:=de.2 hj;unfold Ch at hc;rw [List.isEmpty_iff.1 hc] at this;cases this
  cases n with
  |zero=>exact ⟨he,h⟩
  |succ n=>exact ⟨fun _=>h,fun j hj=>by rw [he] at hj;cases hj⟩
 | .two i j oi oj,n,listed,fr,st,hn,I,hc,h=>by
  cases n with
  |zero=>unfold OT.len at hn;omega
  |succ n=>
   unfold OT.len at hn;unfold Ch at hc;simp only [gA9] at hc;obtain ⟨⟨⟨hr,hall⟩,hci⟩,hcj⟩:=hc;have r:=de.1 (by simpa using hr:i∈rdy (bA g) listed);unfold Ci at h;split at h
   ·rename_i x rs y ss hx hy
    refine ⟨fun h0=>(by rw [h0] at r;cases r),fun k hk=> ?_⟩;have hk2:=List.all_eq_true.1 hall k (de.2 hk);rw [Bool.or_eq_true] at hk2;rcases hk2 with hk2|hk2
    ·obtain rfl:=Nat.eq_of_beq_eq_true hk2
     exact ⟨x,rs,hx,mv (fun f s h=>dq oi n _ f s (by omega) (I.set hk) hci h) h.1⟩
    ·obtain rfl:=Nat.eq_of_beq_eq_true hk2
     exact ⟨y,ss,hy,mv (fun f s h=>dq oj n _ f s (by omega) (I.set hk) hcj h) h.2⟩
   ·exact h.elim
 | .one e i o,0,_,_,_,hn,_,_,_=>by unfold OT.len at hn;omega
 | .one e i o,n+1,listed,fr,st,hn,I,hc,h=>by
  unfold Ch at hc;simp only [gA9] at hc;obtain ⟨⟨hr,hS0⟩,hrest⟩:=hc;have r:=de.1 (by simpa using hr:i∈rdy (bA g) listed);have hz:(bA g).length=g.size:=by simp [bA]
  unfold Ci at h;cases hS:S[i]? with
  |none=>rw [hS] at h;exact h.elim
  |some y=>
   obtain ⟨xi,ri⟩:=y;rw [hS] at h hS0;simp only [gA9] at h hS0;obtain ⟨hXe,hall⟩:=hS0
   have hcond: ∀j xj rj oj,S[j]? =some (xj,rj)→g[j]? =some oj→j≠i→listed.getD j true=false→nD g g.size j i=false→X i=none∧((X j=none∧ku xi xj=true)∨(e=true∧((tx xj=true∧jE xi xj=true∧rsT rj (X j)=true)∨(Ad xj=true∧jE xi xj=true∧(X j).isSome=true)))):=fun j xj rj oj U J T hun hno=>by
    have hj:j<(bA g).length:=by
     have:=(gC0 J).1;omega
    have C:=List.all_eq_true.1 hall j (by simpa using hj);rw [U,tp,hz] at C;simp only [Bool.or_eq_true] at C;rcases C with ((C|C)|C)|C
    ·exact absurd (Nat.eq_of_beq_eq_true C) T
    ·rw [hun] at C;cases C
    ·rw [hno] at C;cases C
    ·simp only [gA9,Bool.or_eq_true] at C
     exact ⟨by simpa using C.1,C.2.imp (fun k=>⟨by simpa using k.1,k.2⟩) (fun k=>⟨k.1,k.2.imp (fun k=>⟨k.1,k.2.1,k.2.2⟩) (fun k=>⟨k.1,k.2.1,k.2.2⟩)⟩)⟩
   have hn' :o.len≤n:=by unfold OT.len at hn;omega
   cases e with
   |true=>
    simp only at h;have hXi:X i=none:=by simpa using hXe
    cases he:da xi fr st with
    |none=>rw [he] at h;exact h.elim
    |some q=>
     obtain ⟨d,a,b⟩:=q;rw [he] at h;cases b with
     |some b=>exact h.elim
     |none=>
      simp only at h;refine DZ hS hXi n listed fr st I (fun j xj rj oj U J T hun hno=> ?_) r he (dq o n _ _ st hn' (I.set r) hrest h);rcases (hcond j xj rj oj U J T hun hno).2 with k|⟨_,k|k⟩
      ·exact .inl k
      ·refine .inr ?_
       unfold rh;rw [k.1,k.2.1,Ir k.2.2];rfl
      ·refine .inr ?_
       unfold rh;rw [k.1,k.2.1,k.2.2];simp
   |false=>
    simp only at h;cases hXi:X i with
    |none=>
     rw [hXi] at h;obtain ⟨fr',st',p,hg,hp,C⟩:=eS h;refine DW hS hXi n listed fr fr' st st' p I (fun j xj rj oj U J T hun hno=> ?_) r hg hp (dq o n _ fr' st' hn' (I.set r) hrest C);rcases (hcond j xj rj oj U J T hun hno).2 with k|⟨k0,_⟩
     ·exact k
     ·cases k0
    |some sp=>
     refine ⟨fun h0=>(by rw [h0] at r;cases r),fun j hj=> ?_⟩;by_cases T:j=i
     ·subst T
      exact ⟨xi,ri,hS,mv (fun f s h=>dq o n _ f s hn' (I.set r) hrest h) h⟩
     ·exfalso
      obtain ⟨hjun,oj,J,hal⟩:=mem_ready.1 hj;have hnot:=gg I (mem_ready.1 r).1 g.size j oj J hal;cases U:S[j]? with
      |none=>
       have hj2:j<(bA g).length:=by
        have:=(gC0 J).1;omega
       have C:=List.all_eq_true.1 hall j (by simpa using hj2);rw [U,tp,hz,hjun,hnot] at C;have hb:Nat.beq j i=false:=yC T;rw [hb] at C;cases C
      |some y=>
       have:=(hcond j y.1 y.2 oj U J T hjun hnot).1;rw [hXi] at this;cases this
theorem AK.regaT {P:Program} {E:Env} {Q:Exit→Fr→St→Prop} {k:List AItem} {fr:Fr} {st:St} (U:P.follows .mixedOrders=true) {l:List GI} {ds:List (List Nat)} (o:OT) (rs:List RS) (X:Nat→Option XSpec) {κ:Type} (K:κ→Prop) (r:κ→Fr) (s0:κ→St)
  (hn:Nat.ble o.len ds.length=true) (C:Ch ds (mkS l rs) X o (Array.replicate ds.length false)=true) (hA:Ci P (mkS l rs) X (fun f s=> ∃i,K i∧Weak f s (r i) (s0 i)) o fr st) (h: ∀i,K i→AK P E Q k (r i) (s0 i)):AK P E Q (.c (.rega l ds)::k) fr st:=by
 intro hd mu c G ac w g _ hC;cases c with
 |region id p dr=>
  simp only [ae] at g;split at g
  ·rename_i l' hl
   split at g
   ·split at g<;>cases g
   ·split at g
    ·cases g
     refine wp_region_any U ?_;have T:(bA p).length=p.size:=by simp [bA]
     refine eX (tj _ _) (mW hl) hd (fun f s G' a' w' I g=> ?_) _ _ fr st G ac _ (hC.same ?_) (dq o _ _ _ _ (by rw [←T];exact Nat.le_of_ble_eq_true hn) (fun j o _ J=>by simp [Array.getD_eq_getD_getElem?,Array.getElem?_replicate] at J;split at J<;>simp at J) (by rw [←T];exact C) hA)
     ·obtain ⟨i,hi,I⟩:=I
      obtain ⟨G2,R⟩:=I E G' a' w' g;exact ⟨G2,r i,s0 i,R,h i hi⟩
     ·exact (Below.refl w.heap.size w).drew
    ·cases g
  ·cases g
 |cond x t e=>simp only [ae] at g;split at g<;>cases g
 |seq x y=>simp only [ae] at g;split at g<;>cases g
 |block id b=>simp only [ae] at g;split at g<;>cases g
 |loop b=>simp only [ae] at g;split at g<;>cases g
 |_=>cases g
def OT.ear:List Nat→OT→OT
 | [],o=>o
 |i::l,o=> .one true i (OT.ear l o)
def OT.run:List Nat→OT→OT
 | [],o=>o
 |i::l,o=> .one false i (OT.run l o)
theorem tz (t:ByteArray) (ht:t.size≤140737488355328):AC Tryz.prog 25 [.str t] (.tup [.lst .any 16 (aM (bU t.data.toList).1),.int .i64 (bU t.data.toList).2]):=JZ t.data.toList ht
theorem Is (nm ver:ByteArray) (v:V) (f:Fl) (p:f.2.size≤140737488355328) (h:(fj [] f.2).1=none):MS Tryz.prog 43 (chS 2000000 nm ver v) [.np 2000000 0,.agg [.str f.1,.str f.2]] (chS 2000000 nm ver v) (.int .i64 (fj [] f.2).2):=by
 obtain ⟨n,t⟩:=f;dsimp only at p h⊢;have C:=tz t p;have g:=eC t.data.toList;have i:=ko t.data.toList;unfold fj at h⊢;generalize bU t.data.toList=q at*;obtain ⟨l,e⟩:=q;dsimp only at C g i h⊢;refine MS.enter Tryz.func43 bC bD (by rfl) (by rfl) fun E J=> ?_
 show AK _ _ _ [.c aJz] _ _;rw [aJz];refine kW ?_;refine kQ [.v (.tup [.lst .any 16 (aM l),.int .i64 e])] ?_;refine kW ?_;refine kC (fun hb=> ?_) fun hb=> ?_
 ·have j:e≠0:=by simpa using hb
  rw [if_pos j];refine kW ?_;exact aR ⟨⟨_,rfl,rfl⟩,⟨_,rfl,rfl⟩,trivial⟩
 have j: ¬e≠0:=by simpa using hb
 rw [if_neg j] at h⊢;clear hb;cases r:dH [] l with
 |some d' =>rw [r] at h;cases h
 |none=>
  have P:=B9 l (by omega) (fun n hn=>gB7 (g n hn) (by omega)) r;refine kW ?_;refine AK.regs ?_;refine SK.all [.s [] [] (.tup [.raw (.map none),.int .i64 13])] ?_ ?_
  ·((repeat' apply aI)<;>first|exact kD|(intro I;refine ⟨?_,kG⟩;(repeat' apply aI)<;>first|exact kD|skip)|skip)
  refine kW ?_;refine kCt ?_;refine kW ?_;exact aR ⟨⟨_,rfl,rfl⟩,⟨_,rfl,rfl⟩,trivial⟩
abbrev tX:Nat→Option XSpec:=fun j=>match j with
 |8=>some (xA 1000001)
 |15=>some (xA 1000002)
 |_=>none
abbrev tT:OT:=OT.ear [0,1,2,3,4,9,10,11,13,14] (OT.run [5,6] (OT.ear [7] (.two 8 12 (OT.run [12,15,16,17,18,19,20,21] .fin) (OT.run [8,15,16,17,18,19,20,21] .fin))))
abbrev chR (nm ver:ByteArray) (v:V) (g j:List (List AV)) (i:(Nat×Nat)×(Nat×Nat)):List AV:= [.str nm,.str ver,.int .i64 v.kind,.bool v.b,.int .i64 v.n,.str v.s,.lst .any 6 (aF v.l),.lst .any 7 (ak v.m),.sli 1000001 2 g.length i.1.1,.sli 1000002 1 j.length i.2.1,.np 1900101 0]
def rOk (g j:List (List AV)) (i:(Nat×Nat)×(Nat×Nat)):Prop:=(g.length≤i.1.1∧(rowB g i.1.2).length=i.1.1*2)∧(j.length≤i.2.1∧(rowB j i.2.2).length=i.2.1*1)
set_option maxHeartbeats 4000000 in
theorem LM (nm ver:ByteArray) (v:V) (f:Fl) (J:f.2.size≤140737488355328) (x:List ND×DF) (h:(fj [] f.2).1=some x):MSX Tryz.prog 43 (chS 2000000 nm ver v) [.np 2000000 0,.agg [.str f.1,.str f.2]] (xn [(f,x.1)] x.2) (fun i=>chK 2000000 1000001 1000002 1900101 nm ver v [(f,x.1)] i) (fun _=> .int .i64 0):=by
 obtain ⟨n,t⟩:=f;obtain ⟨g,d'⟩:=x;dsimp only at J h⊢;obtain ⟨j,p,C,_⟩:=rg h;dsimp only at j p C;have P:=tz t J;have r:=eC t.data.toList;have I:=ko t.data.toList;clear h;generalize bU t.data.toList=q at*;obtain ⟨l,e⟩:=q;dsimp only at P r I j p C⊢;subst j p;have hC:=B8 g (by omega) (fun n hn=>gB7 (r n hn) (by omega)) d' C;have R:Cln [[AV.str n,AV.str t]]:=al [((n,t),g)];refine MSX.enter Tryz.func43 bC bD (by rfl) (by rfl) fun E hE=> ?_
 show AK _ _ _ [.c aJz] _ _;rw [aJz];refine kW ?_;refine kQ [.v (.tup [.lst .any 16 (aM g),.int .i64 0])] ?_;refine kW ?_;refine kCf ?_;refine kW ?_;refine AK.regs ?_;refine SK.all [.s [] [(1900101,[mcA (aRz d')])] (.tup [.np 1900101 0,.int .i64 0])] ?_ ?_
 ·((repeat' apply aI)<;>first|exact kD|(intro T;refine ⟨?_,kG⟩;(repeat' apply aI)<;>first|exact kD|skip)|skip)
 refine kW ?_;refine kCf ?_;refine kW ?_;refine AK.weak (wN (row:=fun _=>0) (L:= [(0,.np 2000000 0),(3,.ptr 3 0),(5,.lst .any 16 (aM g))]) (BL:= [(3,[.str n,.str t],false),(2000000,[.str nm,.str ver,.int .i64 v.kind,.bool v.b,.int .i64 v.n,.str v.s,.lst .any 6 (aF v.l),.lst .any 7 (ak v.m),.lst .nil 2 [],.lst .nil 1 [],.np 1900101 0],false),(1900101,[mcA (aRz d')],false)]) ⟨kI,kI,kI,trivial⟩ ⟨kJ,kJ,kJ,trivial⟩ rfl rfl ⟨rfl,rfl,trivial⟩) ?_;refine AK.regaT fw0 tT [.m [] [],.m [] []] tX (rOk [[.str n,.str t]] [[.lst .any 16 (aM g)]]) (fun _=>au []) (fun i=>⟨ag [(2000000,chR nm ver v [[.str n,.str t]] [[.lst .any 16 (aM g)]] i,false),(1000001,rowB [[.str n,.str t]] i.1.2,false),(1000002,rowB [[.lst .any 16 (aM g)]] i.2.2,false),(1900101,[mcA (aRz d')],false)],fun _=>0⟩) rfl (by kernel_rfl) ?_ fun i hi=> ?_
 ·(repeat' (first|exact trivial|apply aI|intro cap m j p))
  all_goals first
   |(show _=_;exact rfl)
   |(show (1000000:Nat)≤_;decide)
   |(show _<(2000000:Nat);decide)
   |(show 0<1;omega)
   |(show 1≤140737488355328;omega)
   |(show 1*32≤140737488355328;omega)
   |(show 1*24≤140737488355328;omega)
   |(rename_i U m1 p1 p2;exact Exists.intro ((U,m1),(cap,m)) ⟨⟨⟨p1,p2⟩,⟨j,p⟩⟩,wN trivial ⟨kJ,⟨_,rfl,aD ((al [((n,t),g)]).opn _ _ _ _)⟩,kJ,kJ,trivial⟩ rfl rfl ⟨rfl,(al [((n,t),g)]).noFrs _,(am [((n,t),g)]).noFrs _,rfl,trivial⟩⟩)
 refine kW ?_;exact aR ⟨(i.1,i.2,d'),⟨hi.1,hi.2,.refl _⟩,⟨_,rfl,rfl⟩,⟨_,rfl,rfl⟩,⟨_,rfl,(al [((n,t),g)]).told _⟩,⟨_,rfl,(am [((n,t),g)]).told _⟩,⟨_,rfl,rfl⟩,trivial⟩
theorem MSX.impE {ι κ:Type} {P:Program} {f:FuncId} {S:List (Nat×List AV)} {args:List AV} {I:ι→Prop} {S' :ι→List (Nat×List AV)} {r:ι→AV} {J:κ→Prop} {g:κ→List (Nat×List AV)} {r' :κ→AV} (h:MSX P f S args I S' r) (j: ∀i,I i→ ∃k,J k∧g k=S' i∧r' k=r i):MSX P f S args J g r' :=
 ⟨h.cb,fun σ w B vs p C R T U h6 h7=>(h.run σ w B vs p C R T U h6 h7).mono fun e w' ⟨i,hi,hh⟩=>by
  obtain ⟨k,k1,k2,k3⟩:=j i hi;exact ⟨k,k1,by rw [k2,k3];exact hh⟩⟩
theorem MSX.one {ι:Type} {P:Program} {f:FuncId} {S:List (Nat×List AV)} {args:List AV} {I:ι→Prop} {S' :ι→List (Nat×List AV)} {r:ι→AV} {T:List (Nat×List AV)} {x:AV} (h:MSX P f S args I S' r) (g: ∀i,I i→T=S' i∧x=r i):MS P f S args T x:=
 ⟨h.cb,fun σ w B vs j p C J R U h7=>(h.run σ w B vs j p C J R U h7).mono fun e w' ⟨i,hi,hh⟩=>by
  obtain ⟨k2,k3⟩:=g i hi;rw [k2,k3];exact hh⟩
section
variable {d dm:DF} (hdm:dm.Perm d) (hd:SzD d) (hnd:(d.map Prod.fst).Nodup) (l:List ND) (hl:l.length≤1000000) (hn: ∀n∈l,n.name.size≤1000000)
include hdm hd hnd hl hn
theorem D0 {d' :DF} (h:dH d l=some d'):MSX Tryz.prog 26 [(2900001,[mcA (aRz dm)])] [.np 2900001 0,.lst .any 16 (aM l)] (fun g:DF=>g.Perm d') (fun g=> [(1900101,[mcA (aRz g)])]) (fun _=> .tup [.np 1900101 0,.int .i64 0]):=
 (yp l hl hn dm (fun p r=>hd p (hdm.mem_iff.1 r)) ((hdm.map Prod.fst).nodup_iff.2 hnd)).impE fun C I=>by
  rcases mr l C d (I.trans hdm) with ⟨_,i⟩|⟨g,P,j,i,J⟩
  ·rw [h] at i;cases i
  ·rw [h] at i
   cases i;exact ⟨g,J,by unfold clS;rw [j],by unfold clR;rw [j]⟩
theorem Cj (h:dH d l=none):MS Tryz.prog 26 [(2900001,[mcA (aRz dm)])] [.np 2900001 0,.lst .any 16 (aM l)] [] (.tup [.raw (.map none),.int .i64 13]):=
 (yp l hl hn dm (fun p j=>hd p (hdm.mem_iff.1 j)) ((hdm.map Prod.fst).nodup_iff.2 hnd)).one fun r C=>by
  rcases mr l r d (C.trans hdm) with ⟨g,_⟩|⟨I,J,g,i,P⟩
  ·exact ⟨by unfold clS;rw [g],by unfold clR;rw [g]⟩
  ·rw [h] at i;cases i
end
abbrev chT (nm ver:ByteArray) (v:V):List AV:= [.str nm,.str ver,.int .i64 v.kind,.bool v.b,.int .i64 v.n,.str v.s,.lst .any 6 (aF v.l),.lst .any 7 (ak v.m),.top,.top,.top]
set_option maxHeartbeats 4000000 in
theorem EM (nm ver:ByteArray) (v:V) (ts:TS) (d:DF) (hd:SzD d) (hnd:(d.map Prod.fst).Nodup) (j:CI) (hj:xn ts d j) (f:Fl) (T:f.2.size≤140737488355328) (h:(fj d f.2).1=none):MS Tryz.prog 43 (chK 2000000 2000001 2000002 2900001 nm ver v ts j) [.np 2000000 0,.agg [.str f.1,.str f.2]] [(2000000,chT nm ver v)] (.int .i64 (fj d f.2).2):=by
 obtain ⟨n,t⟩:=f;obtain ⟨⟨g,mT⟩,⟨i,mN⟩,dm⟩:=j;obtain ⟨⟨r,C⟩,⟨I,J⟩,hdm⟩:=hj;dsimp only at r C I J hdm;dsimp only at T h⊢;have hP:=tz t T;have p:=eC t.data.toList;have P:=ko t.data.toList;unfold fj at h⊢;generalize bU t.data.toList=q at*;obtain ⟨l,e⟩:=q;dsimp only at hP p P h⊢;refine MS.enter Tryz.func43 bC bD (by rfl) (pv _ _ _ ts ((g,mT),(i,mN),dm) _ (by rfl)) fun E hE=> ?_
 show AK _ _ _ [.c aJz] _ _;rw [aJz];refine kW ?_;refine kQ [.v (.tup [.lst .any 16 (aM l),.int .i64 e])] ?_;refine kW ?_;refine kC (fun hb=> ?_) fun hb=> ?_
 ·have R:e≠0:=by simpa using hb
  rw [if_pos R];refine kW ?_;refine AK.weak (wN (row:=fun _=>0) (L:= [(4,.int .i64 e)]) (BL:= [(2000000,chT nm ver v,false)]) ⟨kI,trivial⟩ ⟨⟨_,rfl,.refl _,.refl _,.refl _,.refl _,.refl _,.refl _,.refl _,.refl _,.top _ rfl,.top _ rfl,.top _ rfl,trivial⟩,trivial⟩ rfl rfl ⟨rfl,trivial⟩) ?_;exact aR ⟨⟨_,rfl,rfl⟩,⟨_,rfl,rfl⟩,trivial⟩
 have R: ¬e≠0:=by simpa using hb
 rw [if_neg R] at h⊢;clear hb;cases U:dH d l with
 |some d' =>rw [U] at h;cases h
 |none=>
  have hC:=Cj hdm hd hnd l (by omega) (fun n hn=>gB7 (p n hn) (by omega)) U;refine kW ?_;refine AK.regs ?_;refine SK.all [.s [2900001] [] (.tup [.raw (.map none),.int .i64 13])] ?_ ?_
  ·((repeat' apply aI)<;>first|exact kD|(intro hgd;refine ⟨?_,kG⟩;(repeat' apply aI)<;>first|exact kD|skip)|skip)
  refine kW ?_;refine kCt ?_;refine kW ?_;refine AK.weak (wN (row:=fun _=>0) (L:= [(4,.int .i64 13)]) (BL:= [(2000000,chT nm ver v,false)]) ⟨kI,trivial⟩ ⟨⟨_,rfl,.refl _,.refl _,.refl _,.refl _,.refl _,.refl _,.refl _,.refl _,.top _ rfl,.top _ rfl,.top _ rfl,trivial⟩,trivial⟩ rfl rfl ⟨rfl,trivial⟩) ?_;exact aR ⟨⟨_,rfl,rfl⟩,⟨_,rfl,rfl⟩,trivial⟩
set_option maxHeartbeats 4000000 in
theorem Kw (nm ver:ByteArray) (v:V) (ts:TS) (hts:ts.length<1000000) (d:DF) (hd:SzD d) (hnd:(d.map Prod.fst).Nodup) (j:CI) (hj:xn ts d j) (f:Fl) (hf:f.2.size≤140737488355328) (x:List ND×DF) (h:(fj d f.2).1=some x):MSX Tryz.prog 43 (chK 2000000 2000001 2000002 2900001 nm ver v ts j) [.np 2000000 0,.agg [.str f.1,.str f.2]] (xn (ts++ [(f,x.1)]) x.2) (fun i=>chK 2000000 1000001 1000002 1900101 nm ver v (ts++ [(f,x.1)]) i) (fun _=> .int .i64 0):=by
 obtain ⟨n,t⟩:=f;obtain ⟨⟨I,mT⟩,⟨J,mN⟩,dm⟩:=j;obtain ⟨⟨hT1,hT2⟩,⟨hN1,T⟩,hdm⟩:=hj;dsimp only at hT1 hT2 hN1 T hdm;obtain ⟨g,d'⟩:=x;dsimp only at hf h⊢;obtain ⟨P,h2,h3,_⟩:=rg h;dsimp only at P h2 h3;have hP:=tz t hf;have hnm:=eC t.data.toList;have hln:=ko t.data.toList;clear h;generalize bU t.data.toList=q at*;obtain ⟨l,e⟩:=q;dsimp only at hP hnm hln P h2 h3⊢;subst P h2;have hC:=D0 hdm hd hnd g (by omega) (fun n hn=>gB7 (hnm n hn) (by omega)) h3;have p:rowsT2 ts++ [[.str n,.str t]]=rowsT2 (ts++ [((n,t),g)]):=(Cf ts (n,t) g).symm;have r:bQ ts++ [[.lst .any 16 (aM g)]]=bQ (ts++ [((n,t),g)]):=(Cg ts (n,t) g).symm;have C:=al (ts++ [((n,t),g)]);have U:=am (ts++ [((n,t),g)]);have hlT:=kq (ts++ [((n,t),g)]);have hlN:=kr (ts++ [((n,t),g)]);rw [←p] at C hlT;rw [←r] at U hlN;refine MSX.enter Tryz.func43 bC bD (by rfl) (pv _ _ _ ts ((I,mT),(J,mN),dm) _ (by rfl)) fun E hE=> ?_
 show AK _ _ _ [.c aJz] _ _;rw [aJz];refine kW ?_;refine kQ [.v (.tup [.lst .any 16 (aM g),.int .i64 0])] ?_;refine kW ?_;refine kCf ?_;refine kW ?_;refine AK.regs ?_;refine SK.run 5 [] ?_ ?_
 ·((repeat' apply aI)<;>first|exact kD|(intro hgd;refine ⟨?_,kG⟩;(repeat' apply aI)<;>first|exact kD|skip)|skip)
 refine SK.callX (fun R:DF=>R.Perm d') (fun R=> [(1900101,[mcA (aRz R)])]) (fun _=> .tup [.np 1900101 0,.int .i64 0]) [2900001] hC (fun R P=>by rfl) fun R P=> ?_
 refine SK.all [] ?_ ?_
 ·((repeat' apply aI)<;>first|exact kD|(intro hgd;refine ⟨?_,kG⟩;(repeat' apply aI)<;>first|exact kD|skip)|skip)
 refine kW ?_;refine kCf ?_;refine kW ?_;refine AK.weak (wN (row:=fun _=>0) (L:= [(0,.np 2000000 0),(3,.ptr 3 0),(5,.lst .any 16 (aM g))]) (BL:= [(3,[.str n,.str t],false),(2000000,[.str nm,.str ver,.int .i64 v.kind,.bool v.b,.int .i64 v.n,.str v.s,.lst .any 6 (aF v.l),.lst .any 7 (ak v.m),.sli 2000001 2 ts.length I,.sli 2000002 1 ts.length J,.np 1900101 0],false),(2000001,rowB (rowsT2 ts) mT,false),(2000002,rowB (bQ ts) mN,false),(1900101,[mcA (aRz R)],false)]) ⟨kI,kI,kI,trivial⟩ ⟨kJ,kJ,⟨_,rfl,aD ((al ts).clr _ _)⟩,⟨_,rfl,aD ((am ts).clr _ _)⟩,kJ,trivial⟩ rfl rfl ⟨rfl,(al ts).noFrs _,(am ts).noFrs _,rfl,trivial⟩) ?_;refine AK.regaT fw0 tT [.m (rowsT2 ts) [],.m (bQ ts) []] tX (rOk (rowsT2 ts++ [[.str n,.str t]]) (bQ ts++ [[.lst .any 16 (aM g)]])) (fun _=>au []) (fun i=>⟨ag [(2000000,chR nm ver v (rowsT2 ts++ [[.str n,.str t]]) (bQ ts++ [[.lst .any 16 (aM g)]]) i,false),(1000001,rowB (rowsT2 ts++ [[.str n,.str t]]) i.1.2,false),(1000002,rowB (bQ ts++ [[.lst .any 16 (aM g)]]) i.2.2,false),(1900101,[mcA (aRz R)],false)],fun _=>0⟩) rfl (by kernel_rfl) ?_ fun i hi=> ?_
 ·(repeat' (first|exact trivial|apply aI|intro cap m P h2))
  all_goals first
   |(show _=_;exact rfl)
   |exact ⟨_,rfl⟩
   |exact ⟨_,(am ts).opn _ _ _ _⟩
   |exact hT2
   |exact T
   |exact (congrArg List.length ((am ts).opn _ _ _ _)).trans T
   |exact (kq ts).symm
   |exact (kr ts).symm
   |exact yw ts
   |exact yx ts
   |exact (yw ts).2
   |exact (yx ts).2
   |(show (1000000:Nat)≤_;decide)
   |(show _<(2000000:Nat);decide)
   |(show 0<1;omega)
   |(show 0<2;omega)
   |(show (rowsT2 ts).length+1≤140737488355328;rw [kq];omega)
   |(show (bQ ts).length+1≤140737488355328;rw [kr];omega)
   |(show ((rowsT2 ts).length+1)*32≤140737488355328;rw [kq];omega)
   |(show ((bQ ts).length+1)*24≤140737488355328;rw [kr];omega)
   |(rename_i c1 m1 p1 p2;exact Exists.intro ((c1,m1),(cap,m)) ⟨⟨⟨p1,p2⟩,⟨P,h2⟩⟩,wN trivial ⟨kJ,⟨_,rfl,aD (C.opn _ _ _ _)⟩,kJ,kJ,trivial⟩ rfl rfl ⟨rfl,C.noFrs _,U.noFrs _,rfl,trivial⟩⟩)
 rw [p,r] at hi;obtain ⟨⟨hi1,hi2⟩,⟨hi3,hi4⟩⟩:=hi;rw [←p,hlT] at hi1;rw [←r,hlN] at hi3;refine kW ?_;refine aR ⟨(i.1,i.2,R),⟨⟨hi1,hi2⟩,⟨hi3,hi4⟩,P⟩,⟨_,rfl,rfl⟩,⟨_,rfl,?_⟩,⟨_,rfl,?_⟩,⟨_,rfl,?_⟩,⟨_,rfl,rfl⟩,trivial⟩
 ·show chR nm ver v (rowsT2 ts++ [[.str n,.str t]]) (bQ ts++ [[.lst .any 16 (aM g)]]) i=_
  unfold chR;rw [hlT,hlN]
 ·rw [←p]
  exact C.told _
 ·rw [←r]
  exact U.told _
end
section
set_option maxRecDepth 100000
def b9:ACode:=
 .seq (gQ [⟨gO,.mov 2 (.k (.raw (Value.pointer none)))⟩,⟨gO,.mov 3 (gS ⟨#[]⟩)⟩,gJ 4 0]) (.seq (gQ [gM 12 0,gC 13 39 [.s 12],gM 11 13,gX 14 0 11,gX 15 1 11,gX 16 2 11,gM 5 14,gM 6 15,gM 7 16]) (.seq (.seq (gQ [gM 17 7,gU 18 .neq 17 0]) (.cond (.s 18) (.seq (gQ [gM 19 6,gM 20 7,⟨gO,.mov 2 (.k (.raw (Value.pointer none)))⟩,gM 3 19,gM 4 20]) .ret) .skip)) (.seq (gQ [⟨gO,.call (some 21) (.k (.fn 36 [])) [.k (.lst .nil 7 [])]⟩,⟨gO,.build 22 [.str ⟨#[]⟩,.str ⟨#[]⟩,.int .i64 0,.bool false,.int .i64 0,.str ⟨#[]⟩,.lst .nil 6 [],.lst .nil 7 [],.lst .nil 2 [],.lst .nil 1 [],.raw (Value.map none)] [(2,6,.s 21)]⟩,gP 23 22,gM 8 23]) (.seq (.seq (gQ [gM 24 5,gH 25 false 24,gJ 26 0]) (.block 0 (.loop (.seq (gQ [gV 27 .lss 26 25]) (.seq (.cond (.s 27) .skip (.exit 0)) (.seq (.block 1 (.seq (gQ [gE 28 2 24 26,gA 29 2 28,⟨gO,.alloc 10 [.str ⟨#[]⟩,.str ⟨#[]⟩]⟩,gT 2 10 29]) (.seq (.block 2 (.seq (gQ [gF 31 0 10,gL 32 31,⟨gO,gB 33 .eql (.s 32) (gS ⟨#[67,104,97,114,116,46,121,97,109,108]⟩)⟩,gM 30 33]) (.cond (.s 30) (.regs [gM 34 8,gF 35 1 10,gL 36 35,⟨gO,.calls (some 37) (.k (.fn 40 [])) [.s 34,.s 36]⟩,gM 7 37]) (.seq (gQ [gF 39 0 10,gL 40 39,⟨gO,gB 41 .eql (.s 40) (gS ⟨#[118,97,108,117,101,115,46,121,97,109,108]⟩)⟩,gM 38 41]) (.cond (.s 38) (.regs [gM 42 8,gF 43 1 10,gL 44 43,⟨gO,.calls (some 45) (.k (.fn 41 [])) [.s 42,.s 44]⟩,gM 7 45]) (.seq (gQ [gF 47 0 10,gL 48 47,⟨gO,.call (some 49) (.k (.fn 42 [])) [.s 48,gS ⟨#[116,101,109,112,108,97,116,101,115,47]⟩]⟩,gM 46 49]) (.cond (.s 46) (.regs [gM 50 8,gA 51 2 10,⟨gO,.calls (some 52) (.k (.fn 43 [])) [.s 50,.s 51]⟩,gM 7 52]) .skip))))))) (.seq (gQ [gM 53 7,gU 54 .neq 53 0]) (.cond (.s 54) (.seq (gQ [gF 55 0 10,gL 56 55,gM 57 7,⟨gO,.mov 2 (.k (.raw (Value.pointer none)))⟩,gM 3 56,gM 4 57]) .ret) .skip))))) (.reg [gU 58 .add 26 1,gM 26 58]))))))) (.seq (.seq (gQ [gM 59 8,gF 60 0 59,gF 61 0 60,gL 62 61,⟨gO,gB 63 .eql (.s 62) (gS ⟨#[]⟩)⟩]) (.cond (.s 63) (.seq (gQ [⟨gO,.mov 2 (.k (.raw (Value.pointer none)))⟩,⟨gO,.mov 3 (gS ⟨#[67,104,97,114,116,46,121,97,109,108]⟩)⟩,gJ 4 3]) .ret) .skip)) (.seq (gQ [gM 64 8,gM 2 64,⟨gO,.mov 3 (gS ⟨#[]⟩)⟩,gJ 4 0]) .ret))))))
def Ck:AFn:=⟨1,65,b9,[.tmp 2,.tmp 3,.tmp 4]⟩
theorem v6:ax Tryz.prog [2000040,2000041,2000043,2000010,2000026,2000083,2000011,5000009,5000011,5000013] Tryz.f10=some Ck:=kk
theorem v7:aa Tryz.prog 10=true:=kk
end
end Go.Proofs.YtbgflifmanjpjaaGreatDoor
