/- Part 33. -/
import Derived.Test.YtbgflifmanjpjaaGreatDoorS32
import Derived.Deep.RegionWith
set_option linter.unusedSimpArgs false
set_option linter.unusedVariables false
namespace Go.Proofs.YtbgflifmanjpjaaGreatDoor
section
open Go.RowKit
theorem HY (a:ByteArray) (w:World):Calls Tryz.prog 137 #[.string a] w fun e w' =>e= .returned (.bool false)∧w' =w:=by
 go_enter Tryz.func137,Tryz.ntmps137
 go_wp2_with fail
 go_ret
 exact ⟨by simp,rfl⟩
theorem Dz (a b:ByteArray):cg a b= -1∨cg a b=0∨cg a b=1:=by
 unfold cg;generalize a.data.toList=x;generalize b.data.toList=y
 induction x generalizing y with
 |nil=>cases y<;>simp [Lib.compareBytes]
 |cons c x ih=>
  cases y with
  |nil=>simp [Lib.compareBytes]
  |cons d y=>
   rw [Lib.compareBytes]
   (repeat' split)<;>first|exact .inl rfl|exact .inr (.inl rfl)|exact .inr (.inr rfl)|exact ih y
set_option maxRecDepth 100000 in
theorem HZ (a b:ByteArray) (w:World):Calls Tryz.prog 85 #[.string a,.string b] w fun e w' =>e= .returned (.int .i64 (cg a b))∧w' =w:=by
 have P:=Lib.hid fun a=>HY a w
 have I:=Dz a b;have i:=ee (a:=a) (b:=b);have j:=xK a b;have C:=gS (a:=a) (b:=b);obtain ⟨R,J⟩: ∃R,cg a b=R:=⟨_,rfl⟩
 rw [J] at I i j C⊢;unfold klt at i j;cases p:Op.bytesLess a.toList b.toList with
 |true=>
  have r:R= -1:=by have:=i.2 p;omega
  subst r;clear J I i j C
  go_enter Tryz.func85,Tryz.ntmps85
  go_wp2_with (go_at_call 137;refine (P.out _).mono ?_;rintro e w1 ⟨rfl,rfl⟩)
  go_ret
  exact ⟨rfl,rfl⟩
 |false=>
  cases g:Op.bytesLess b.toList a.toList with
  |true=>
   have r:R=1:=by have:=j.2 g;omega
   have T:(a.toList==b.toList)=false:=by
    refine beq_eq_false_iff_ne.2 fun e=>CO (a:=b) (b:=a) g ?_
    rw [ByteArray.toList_eq,ByteArray.toList_eq] at e;exact (ByteArray.ext (Array.toList_inj.1 e)).symm
   subst r;clear J I i j C
   go_enter Tryz.func85,Tryz.ntmps85
   go_wp2_with (go_at_call 137;refine (P.out _).mono ?_;rintro e w1 ⟨rfl,rfl⟩)
   go_ret
   exact ⟨rfl,rfl⟩
  |false=>
   have r:R=0:=by
    have U: ¬R<0:=fun h=>by rw [i.1 h] at p;cases p
    have k2: ¬0<R:=fun h=>by rw [j.1 h] at g;cases g
    omega
   have T:(a.toList==b.toList)=true:=by rw [C.1 r];simp
   subst r;clear J I i j C
   go_enter Tryz.func85,Tryz.ntmps85
   go_wp2_with (go_at_call 137;refine (P.out _).mono ?_;rintro e w1 ⟨rfl,rfl⟩)
   go_ret
   exact ⟨rfl,rfl⟩
theorem kCt {P:Program} {E:Env} {Q:Exit→Fr→St→Prop} {k:List AItem} {fr:Fr} {st:St} {x:Opd} {t e:ACode} (g:AK P E Q (.c t::k) fr st) (i:x.ev fr=some (.bool true):=by rfl):AK P E Q (.c (.cond x t e)::k) fr st:=AK.cond i (fun _=>g) fun h=>by cases h
theorem kCf {P:Program} {E:Env} {Q:Exit→Fr→St→Prop} {k:List AItem} {fr:Fr} {st:St} {x:Opd} {t e:ACode} (g:AK P E Q (.c e::k) fr st) (i:x.ev fr=some (.bool false):=by rfl):AK P E Q (.c (.cond x t e)::k) fr st:=AK.cond i (fun h=>by cases h) fun _=>g
end
section
open Go.RowKit Go.Sort Go.Lib Go.Shelf
theorem JC (y t n x:ByteArray):AC Tryz.prog 81 [.agg [.str y,.str t],.ro [.str n,.str x]] (.bool (decide (y=n))):=by
 refine kE Tryz.func81 nZ n7 fun E g=> ?_
 refine kW ?_;refine aR ⟨_,rfl,?_⟩;rfl
def atF (n:ByteArray):List Fl→Nat→Int
 | [],_=> -1
 |p::l,k=>if p.1=n then k else atF n l (k+1)
theorem EF (n:ByteArray): ∀(l:List Fl) (k:Nat),decide (0≤atF n l k)=l.any fun g=>decide (g.1=n)
 | [],k=>by rw [atF];rfl
 |p::l,k=>by
  rw [atF,List.any_cons];by_cases h:p.1=n
  ·rw [if_pos h,decide_eq_true h,Bool.true_or]
   exact decide_eq_true (by omega)
  ·rw [if_neg h,decide_eq_false h,Bool.false_or,EF n l (k+1)]
theorem H0 {n:ByteArray} {l:List Fl} {k:Nat} {p:Fl} (h:l[k]? =some p):atF n (l.drop k) k=if p.1=n then (k:Int) else atF n (l.drop (k+1)) (k+1):=by
 obtain ⟨g,e⟩:=gA0 h;rw [List.drop_eq_getElem_cons g,e,atF]
theorem H1 (l:List Fl) (n x:ByteArray) (hl:l.length≤4398046511104):AC Tryz.prog 134 [.lst .any 2 (aq l),.fn 81 [.ro [.str n,.str x]]] (.int .i64 (atF n l 0)):=by
 refine kE Tryz.func134 gv gy fun E C=> ?_
 refine kW ?_;refine aJ (fun k:Nat=>(ax [(0,.lst .any 2 (aq l)),(1,.fn 81 [.ro [.str n,.str x]]),(7,.int .i64 (aq l).length),(8,.int .i64 k)],⟨ah [],fun _=>0⟩)) (fun k=>k≤l.length∧atF n l 0=atF n (l.drop k) k) (fun k=>l.length-k) 0 ⟨gB8 _,rfl⟩ (wO ⟨kI,kI,kI,kI,trivial⟩ trivial rfl rfl) fun k i=> ?_
 obtain ⟨i,hr⟩:=i;refine kW ?_;refine kC (fun hb=> ?_) fun hb=> ?_
 ·have g:k<l.length:=by simpa [ak] using hb
  obtain ⟨p,hg⟩: ∃x,l[k]? =some x:=⟨_,gA1 g⟩
  have I:=JC p.1 p.2 n x;rw [H0 hg] at hr;have j:=ak l;clear hb;refine kW ?_;refine kP [.c [.str p.1,.str p.2],.v (.bool (decide (p.1=n)))] ?_ ?_
  ·((repeat' apply aI)<;>first|exact kD|(intro r;refine ⟨?_,kG⟩;(repeat' apply aI)<;>first|exact kD|skip)|skip)
   exact bY hg
  refine kC (fun hb=> ?_) fun hb=> ?_
  ·rw [if_pos (gB3 hb)] at hr
   refine kW ?_;refine aR ⟨_,rfl,?_⟩;exact congrArg (AV.int _) hr.symm
  ·rw [if_neg (gB4 hb)] at hr
   refine kW ?_;exact AK.lp ⟨k+1,⟨by omega,hr⟩,wO ⟨kI,kI,kI,kU,trivial⟩ trivial rfl rfl,by omega⟩
 ·have g:k=l.length:=by
   have:l.length≤k:=by simpa [ak] using hb
   omega
  subst g;rw [List.drop_length,atF] at hr;refine AK.exit rfl ?_;refine kW ?_;refine aR ⟨_,rfl,?_⟩;rw [hr];rfl
theorem FU (l:List Fl) (n x:ByteArray) (hl:l.length≤4398046511104):AC Tryz.prog 80 [.lst .any 2 (aq l),.fn 81 [.ro [.str n,.str x]]] (.bool (l.any fun g=>decide (g.1=n))):=by
 have h:=H1 l n x hl;rw [←EF n l 0];refine kE Tryz.func80 fg fh fun E i=> ?_
 refine kW ?_;refine kQ [.v (.int .i64 (atF n l 0))] ?_;refine kW ?_;refine aR ⟨_,rfl,?_⟩;rfl
theorem K1 (w:World) (A B:Obj):(w.alloc A).alloc B=grow (w.drewN 0) #[A,B]:=by
 have h:(w.heap.push A).push B=w.heap++ #[A,B]:=by
  apply Array.ext';simp
 unfold grow World.drewN World.alloc;simp only;rw [←h];rfl
set_option maxRecDepth 100000 in
theorem FV (a b c d:ByteArray) (w:World):
  Calls Tryz.prog 84 #[.agg #[.string a,.string b],.agg #[.string c,.string d]] w fun e w' =>e= .returned (.int .i64 (cg a c))∧ ∃q os,w' =grow (w.drewN q) os:=by
 obtain ⟨R,g⟩: ∃R,cg a c=R:=⟨_,rfl⟩
 have i:=Lib.hid fun w=>HZ a c w
 rw [g] at i⊢;clear g
 go_enter Tryz.func84,Tryz.ntmps84
 go_wp2_with (go_at_call 85;refine (i.out _).mono ?_;rintro j w1 ⟨rfl,rfl⟩)
 go_ret
 exact ⟨rfl,0,_,K1 w _ _⟩
def H2 (p:Fl):List AV:= [.str p.1,.str p.2]
theorem DA (p:Fl): ∀c∈H2 p,c.clean=true:=by
 intro c g;simp [H2] at g;rcases g with rfl|rfl<;>rfl
theorem BA (l:List Fl):RowsOk 2 (aq l):=⟨by omega,fun c g=>by
 obtain ⟨o,_,rfl⟩:=List.mem_map.1 g;exact ⟨rfl,rfl⟩⟩
theorem H3 {σ:Sg} {cs:List Value} {p:Fl} (h:RelL σ cs (H2 p)):cs.toArray= #[.string p.1,.string p.2]:=by
 have hl:=h.1;rcases cs with _|⟨g,_|⟨i,_|⟨_,_⟩⟩⟩<;>simp [H2] at hl
 have j:Rel1 σ g (.str p.1):=h.2 0 _ _ rfl rfl;have r:Rel1 σ i (.str p.2):=h.2 1 _ _ rfl rfl;cases j;cases r;rfl
theorem FW (l:List Fl) (g:(l.map (·.1)).Nodup) (hlen:l.length≤1000000) (cap m:Nat) (i:l.length≤cap) (j:((aq l).flatten++List.replicate m AV.top).length=cap*2):
  MS Tryz.prog 83 [(2000000,(aq l).flatten++List.replicate m AV.top)] [.sli 2000000 2 l.length cap,.fn 84 []] [(2000000,(aq (cS l)).flatten++List.replicate m AV.top)] (.tup []):=
 JB Tryz.sortFl (by kernel_rfl) Tryz.isAgg52 Tryz.sizeOf52 H2 (fun _=>rfl) DA Jv (fun p:Fl=>p.1) g (by omega) (gp l) ((Bo l g).imp fun {a b} h=>ee.2 h) _ (enters_of Tryz.func84 (by kernel_rfl) rfl) (fun σ cs ds x y _ _ r C W I=>by
  rw [H3 r,H3 C];exact FV _ _ _ _ W) cap m i j
def DB (i:Nat):Nat:=if i=2000000 then 1000001 else if i=1000001 then 2000000 else i
theorem H4 (i j:Nat) (h:DB i=DB j):i=j:=by
 unfold DB at h
 repeat' split at h
 all_goals omega
theorem JD (i:Nat):kd (DB i)=kd i:=by
 unfold DB
 repeat' split
 all_goals first|(subst_vars;rfl)|rfl
theorem xR {g:AV→AV} (i: ∀s,g (.str s)= .str s) (j:g .top= .top) (l:List Fl) (m:Nat):((aq l).flatten++List.replicate m AV.top).map g=(aq l).flatten++List.replicate m AV.top:=by
 rw [List.map_append,List.map_replicate,j];congr 1
 induction l with
 |nil=>rfl
 |cons p l ih=>
  show ([AV.str p.1,AV.str p.2]++(aq l).flatten).map g= [AV.str p.1,AV.str p.2]++(aq l).flatten;rw [List.map_append,ih];show [g (.str p.1),g (.str p.2)]++_=_;rw [i,i]
theorem xS {g:AV→Bool} (C: ∀s,g (.str s)=true) (I:g .top=true) (l:List Fl) (m:Nat):((aq l).flatten++List.replicate m AV.top).all g=true:=by
 rw [List.all_eq_true];intro c i;rcases gB5 i with i|i
 ·obtain ⟨r,hr,j⟩:=List.mem_flatten.1 i
  obtain ⟨p,_,rfl⟩:=List.mem_map.1 hr;simp at j;rcases j with rfl|rfl<;>exact C _
 ·rw [(List.mem_replicate.1 i).2]
  exact I
theorem FY (l:List Fl) (j:(l.map (·.1)).Nodup) (hlen:l.length≤1000000) (cap m:Nat) (i:l.length≤cap) (p:((aq l).flatten++List.replicate m AV.top).length=cap*2):
  MS Tryz.prog 83 [(1000001,((aq l).flatten++List.replicate m AV.top).map AV.told)] [.sli 1000001 2 l.length cap,.fn 84 []] [(1000001,(aq (cS l)).flatten++List.replicate m AV.top)] (.tup []):=by
 have h:=(FW l j hlen cap m i p).ren DB H4 JD;unfold qd at h;simp only [List.map_cons,List.map_nil,xR (g:=AV.ren DB) (fun _=>rfl) rfl] at h;rw [xR (fun _=>rfl) rfl];exact h
theorem BB (f:AV) (r:f.arg=some f):AC Tryz.prog 83 [.lst .any 2 [],f] (.tup []):=by
 refine ⟨by kernel_rfl,fun σ w vs g hr hg=> ?_⟩
 obtain ⟨v1,v2,rfl⟩: ∃a b,vs= [a,b]:=by
  have:=hr.1;rcases vs with _|⟨a,_|⟨b,_|⟨_,_⟩⟩⟩<;>simp at this
  exact ⟨a,b,rfl⟩
 have i:Rel1 σ v1 (.lst .any 2 []):=hr.2 0 v1 _ rfl rfl;cases i with
 |lst t esz l A n cap b o f hn hlen hA hsz C hr ht=>
  subst hn;refine (AnyF.slices_SortFunc_none Tryz.sortFl A cap v2 w).mono ?_;rintro e w' ⟨rfl,rfl⟩;exact ⟨σ,.tuple #[],rfl,.refl _ _,g,.refl _ _,[],rfl,rfl,fun j u x p=>by simp at p⟩
theorem H5 (l:List Fl) (m:Nat) (i:Nat→Option (List AV×Bool)):(okS [1000001] [(1000001,(aq l).flatten++List.replicate m AV.top)] (.tup [])&&a8 i (ay [1000001] [(1000001,(aq l).flatten++List.replicate m AV.top)]))=true:=by
 have h:=xS (g:=AV.inS [1000001]) (fun _=>rfl) rfl l m;unfold okS;show (((true&&true)&&((((aq l).flatten++List.replicate m AV.top).all (AV.inS [1000001]))&&true)&&true)&&true)=true;rw [h];rfl
set_option maxHeartbeats 4000000 in
theorem JE (l:List Fl) (hl:l.length≤4398046511103) (hz:l.length≤32→ ∀p∈l,p.1.size≤1000000):AC Tryz.prog 39 [.lst .any 2 (aq l)] (.tup [.lst .any 2 (aq (aw l).1),.str (aw l).2.1,.int .i64 (aw l).2.2]):=by
 generalize j:aw l=R;have hRe:(aw l).2.2=0→l.length≤32∧(l.map (·.1)).Nodup∧(∀f∈l,cA f.1=true∧f.2.size≤65536)∧(aw l).1=cS l∧(cU [] l).2=0:=me;unfold aw at j;refine kE Tryz.func39 qD qE fun E hE=> ?_
 refine kW ?_;refine kC (fun hb=> ?_) fun hb=> ?_
 ·have r:32<l.length:=by
   have:(l.length:Int)>32:=by simpa [ak] using hb
   omega
  rw [if_pos r] at j;subst j;refine kW ?_;refine aR ⟨_,rfl,?_⟩;rfl
 have r: ¬32<l.length:=by
  have: ¬(l.length:Int)>32:=by simpa [ak] using hb
  omega
 rw [if_neg r] at j;clear hb;refine kW ?_;refine aJ (fun k:Nat=>(ax [(0,.lst .any 2 (aq l)),(10,.lst .any 2 (aq l)),(11,.int .i64 (aq l).length),(12,.int .i64 k)],⟨ah [],fun _=>0⟩)) (fun k=>k≤l.length∧cU [] l=cU (l.take k) (l.drop k)) (fun k=>l.length-k) 0 ⟨gB8 _,rfl⟩ (wO ⟨kI,kI,kI,kI,trivial⟩ trivial rfl rfl) fun k hk=> ?_
 obtain ⟨hk,C⟩:=hk;have hll:=ak l;refine kW ?_;refine kC (fun hb=> ?_) fun hb=> ?_
 ·have I:k<l.length:=by simpa [ak] using hb
  obtain ⟨p,hg⟩: ∃x,l[k]? =some x:=⟨_,gA1 I⟩
  have hnm:=HO p.1 (hz (by omega) p (gA2 hg));have i:=xI hg;have hh:=FU (l.take k) p.1 p.2 (by rw [gA7];omega)
  have hh:AC Tryz.prog 80 [.lst .any 2 (List.drop (Int.toNat 0) (List.take (k:Int).toNat (aq l))),.fn 81 [.ro [.str p.1,.str p.2]]] (.bool ((l.take k).any fun g=>decide (g.1=p.1))):=by
   rw [show List.drop (Int.toNat 0) (List.take (k:Int).toNat (aq l))=aq (l.take k) by
    rw [Int.toNat_natCast];unfold aq;rw [List.map_take];rfl]
   exact hh
  rw [←C] at i;clear hb;refine kW ?_;refine kP [.c [.str p.1,.str p.2]] ?_ ?_
  ·((repeat' apply aI)<;>first|exact kD|(intro hgd;refine ⟨?_,kG⟩;(repeat' apply aI)<;>first|exact kD|skip)|skip)
   all_goals exact bY hg
  refine kW ?_;refine kQ [.v (.bool (cA p.1))] ?_;cases hn:cA p.1 with
  |false=>
   have J:cT (l.take k) p=22:=by unfold cT;rw [if_pos hn]
   rw [J,if_pos (by decide)] at i;rw [i,if_pos (by dsimp only;decide)] at j;subst j;refine kCt ?_;refine kW ?_;refine aR ⟨_,rfl,?_⟩;rfl
  |true=>
   refine kCf ?_;refine kW ?_;refine kC (fun hb=> ?_) fun hb=> ?_
   ·have hs:65536<p.2.size:=by
     have:(p.2.size:Int)>65536:=by simpa using hb
     omega
    have J:cT (l.take k) p=6:=by unfold cT;rw [if_neg (by rw [hn];simp),if_pos hs]
    rw [J,if_pos (by decide)] at i;rw [i,if_pos (by dsimp only;decide)] at j;subst j;refine kW ?_;refine aR ⟨_,rfl,?_⟩;rfl
   have hs: ¬65536<p.2.size:=by
    have: ¬(p.2.size:Int)>65536:=by simpa using hb
    omega
   clear hb;refine kW ?_;refine kP [.v (.bool ((l.take k).any fun g=>decide (g.1=p.1)))] ?_ ?_
   ·((repeat' apply aI)<;>first|exact kD|(intro hgd;refine ⟨?_,kG⟩;(repeat' apply aI)<;>first|exact kD|skip)|skip)
    all_goals omega
   cases ha:(l.take k).any fun g=>decide (g.1=p.1) with
   |true=>
    have J:cT (l.take k) p=13:=by unfold cT;rw [if_neg (by rw [hn];simp),if_neg hs,if_pos ha]
    rw [J,if_pos (by decide)] at i;rw [i,if_pos (by dsimp only;decide)] at j;subst j;refine kCt ?_;refine kW ?_;refine aR ⟨_,rfl,?_⟩;rfl
   |false=>
    have J:cT (l.take k) p=0:=by unfold cT;rw [if_neg (by rw [hn];simp),if_neg hs,if_neg (by rw [ha];simp)]
    rw [J,if_neg (by decide)] at i;refine kCf ?_;refine kW ?_;exact AK.lp ⟨k+1,⟨by omega,i⟩,wO ⟨kI,kI,kI,kU,trivial⟩ trivial rfl rfl,by omega⟩
 ·have I:k=l.length:=by
   have:l.length≤k:=by simpa [ak] using hb
   omega
  subst I;clear hb hk;rw [List.drop_length,cU] at C;rw [C,if_neg (by decide)] at j;subst j
  have hR2:(aw l).2.2=0:=by
   unfold aw;rw [if_neg r,C,if_neg (by decide)]
  obtain ⟨_,hnd,_,_,_⟩:=hRe hR2;refine AK.exit rfl ?_;by_cases T:l= []
  ·subst T
   have U:=Bp;have h2:=BB (.fn 84 []) rfl;refine kW ?_;refine kQ [.v (.lst .any 2 [])] ?_;refine kW ?_;refine kQ [.v (.tup [])] ?_;refine kW ?_;refine aR ⟨_,rfl,?_⟩;rfl
  ·have hpos:0<l.length:=List.length_pos_iff.2 T
   have U:=Du (aq l) (by omega) (by omega);refine kW ?_;refine kQ [.f 2 (aq l)] ?_;refine AK.open 41 41 1000001 rfl (by omega) rfl fun cap m U h2=> ?_
   rw [ak] at U;have hS:=FY l hnd (by omega) cap m U h2;have hokS:=H5 (cS l) m;have P:=qC l;have hfl: ∀l:List Fl,(aq l).flatten.length=l.length*2:=fun l=>by rw [(BA l).flat.1,ak]
   have hC:=RowCs.mk_ (BA (cS l)) (cap:=cap) (m:=m) (by rw [ak,P];exact U) (by
    have:=h2;rw [gA5,hfl] at this;rw [gA5,hfl,P];exact this)
   refine AK.weak (wN (L:= [(0,.sli 1000001 2 l.length cap),(41,.sli 1000001 2 l.length cap)]) (BL:= [(1000001,(aq l).flatten++List.replicate m AV.top,false)]) ⟨⟨_,rfl,.of_eq (by show AV.sli 1000001 2 (aq l).length cap=_;rw [ak])⟩,⟨_,rfl,.of_eq (by show AV.sli 1000001 2 (aq l).length cap=_;rw [ak])⟩,trivial⟩ ⟨kJ,trivial⟩ rfl rfl ⟨xS (fun _=>rfl) rfl _ _,trivial⟩) ?_;refine kW ?_;refine kP [.s [1000001] [(1000001,(aq (cS l)).flatten++List.replicate m AV.top)] (.tup [])] ?_ ?_
   ·(repeat' apply aI)<;>first|exact hS|exact hokS _|exact kD
   refine kW ?_;refine AK.fz 1000001 rfl ?_;refine AK.weak (wN (L:= [(2,.lst .any 2 (aq (cS l))),(3,.str ⟨#[]⟩),(4,.int .i64 0)]) (BL:= []) ⟨⟨_,rfl,?_⟩,kI,kI,trivial⟩ trivial rfl rfl trivial) ?_
   ·show AVle _ (.sli 1000001 2 l.length cap) _
    have hn:l.length=(aq (cS l)).length:=by rw [ak,P]
    rw [hn];exact .one (hC.le rfl)
   refine aR ⟨_,rfl,?_⟩;rfl
end
end Go.Proofs.YtbgflifmanjpjaaGreatDoor
