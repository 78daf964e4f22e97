/- Part 33. -/
import Derived.Test.YtbgflifmanjpjaaGreatDoorS32
import Derived.Deep.RegionWith
set_option linter.unusedSimpArgs false
set_option linter.unusedVariables false
namespace Go.Proofs.YtbgflifmanjpjaaGreatDoor
section
open Go.RowKit
theorem HL (a:ByteArray) (w:World):Calls Tryz.prog 137 #[.string a] w fun e w' =>e= .returned (.bool false)∧w' =w:=by
 go_enter Tryz.func137,Tryz.ntmps137
 go_wp2_with fail
 go_ret
 exact ⟨by simp,rfl⟩
theorem DI (a b:ByteArray):co a b= -1∨co a b=0∨co a b=1:=by
 unfold co;generalize a.data.toList=x;generalize b.data.toList=y
 induction x generalizing y with
 |nil=>cases y<;>simp [Lib.compareBytes]
 |cons c x ih=>
  cases y with
  |nil=>simp [Lib.compareBytes]
  |cons d y=>
   rw [Lib.compareBytes]
   (repeat' split)<;>first|exact .inl rfl|exact .inr (.inl rfl)|exact .inr (.inr rfl)|exact ih y
set_option maxRecDepth 100000 in
theorem HM (a b:ByteArray) (w:World):Calls Tryz.prog 85 #[.string a,.string b] w fun e w' =>e= .returned (.int .i64 (co a b))∧w' =w:=by
 have P:=Lib.hid fun a=>HL a w
 have I:=DI a b;have i:=el (a:=a) (b:=b);have j:=xZ a b;have C:=iu (a:=a) (b:=b);obtain ⟨R,J⟩: ∃R,co a b=R:=⟨_,rfl⟩
 rw [J] at I i j C⊢;unfold klt at i j;cases p:Op.bytesLess a.toList b.toList with
 |true=>
  have r:R= -1:=by have:=i.2 p;omega
  subst r;clear J I i j C
  go_enter Tryz.func85,Tryz.ntmps85
  go_wp2_with (go_at_call 137;refine (P.out _).mono ?_;rintro e w1 ⟨rfl,rfl⟩)
  go_ret
  exact ⟨rfl,rfl⟩
 |false=>
  cases g:Op.bytesLess b.toList a.toList with
  |true=>
   have r:R=1:=by have:=j.2 g;omega
   have T:(a.toList==b.toList)=false:=by
    refine beq_eq_false_iff_ne.2 fun e=>CQ (a:=b) (b:=a) g ?_
    rw [ByteArray.toList_eq,ByteArray.toList_eq] at e;exact (ByteArray.ext (Array.toList_inj.1 e)).symm
   subst r;clear J I i j C
   go_enter Tryz.func85,Tryz.ntmps85
   go_wp2_with (go_at_call 137;refine (P.out _).mono ?_;rintro e w1 ⟨rfl,rfl⟩)
   go_ret
   exact ⟨rfl,rfl⟩
  |false=>
   have r:R=0:=by
    have U: ¬R<0:=fun h=>by rw [i.1 h] at p;cases p
    have k2: ¬0<R:=fun h=>by rw [j.1 h] at g;cases g
    omega
   have T:(a.toList==b.toList)=true:=by rw [C.1 r];simp
   subst r;clear J I i j C
   go_enter Tryz.func85,Tryz.ntmps85
   go_wp2_with (go_at_call 137;refine (P.out _).mono ?_;rintro e w1 ⟨rfl,rfl⟩)
   go_ret
   exact ⟨rfl,rfl⟩
theorem kCt {P:Program} {E:Env} {Q:Exit→Fr→St→Prop} {k:List AItem} {fr:Fr} {st:St} {x:Opd} {t e:ACode} (g:AK P E Q (.c t::k) fr st) (i:x.ev fr=some (.bool true):=by rfl):AK P E Q (.c (.cond x t e)::k) fr st:=AK.cond i (fun _=>g) fun h=>by cases h
theorem kCf {P:Program} {E:Env} {Q:Exit→Fr→St→Prop} {k:List AItem} {fr:Fr} {st:St} {x:Opd} {t e:ACode} (g:AK P E Q (.c e::k) fr st) (i:x.ev fr=some (.bool false):=by rfl):AK P E Q (.c (.cond x t e)::k) fr st:=AK.cond i (fun h=>by cases h) fun _=>g
end
section
open Go.RowKit Go.Sort Go.Lib Go.Shelf
theorem JC (y t n x:ByteArray):AC Tryz.prog 81 [.agg [.str y,.str t],.ro [.str n,.str x]] (.bool (decide (y=n))):=by
 refine kE Tryz.func81 nV nW fun E g=> ?_
 refine kW ?_;refine aR ⟨_,rfl,?_⟩;rfl
def atF (n:ByteArray):List Fl→Nat→Int
 | [],_=> -1
 |p::l,k=>if p.1=n then k else atF n l (k+1)
theorem ED (n:ByteArray): ∀(l:List Fl) (k:Nat),decide (0≤atF n l k)=l.any fun g=>decide (g.1=n)
 | [],k=>by rw [atF];rfl
 |p::l,k=>by
  rw [atF,List.any_cons];by_cases h:p.1=n
  ·rw [if_pos h,decide_eq_true h,Bool.true_or]
   exact decide_eq_true (by omega)
  ·rw [if_neg h,decide_eq_false h,Bool.false_or,ED n l (k+1)]
theorem HN {n:ByteArray} {l:List Fl} {k:Nat} {p:Fl} (h:l[k]? =some p):atF n (l.drop k) k=if p.1=n then (k:Int) else atF n (l.drop (k+1)) (k+1):=by
 obtain ⟨g,e⟩:=gA0 h;rw [List.drop_eq_getElem_cons g,e,atF]
theorem HO (l:List Fl) (n x:ByteArray) (hl:l.length≤4398046511104):AC Tryz.prog 134 [.lst .any 2 (aH l),.fn 81 [.ro [.str n,.str x]]] (.int .i64 (atF n l 0)):=by
 refine kE Tryz.func134 g5 g6 fun E C=> ?_
 refine kW ?_;refine aJ (fun k:Nat=>(au [(0,.lst .any 2 (aH l)),(1,.fn 81 [.ro [.str n,.str x]]),(7,.int .i64 (aH l).length),(8,.int .i64 k)],⟨ag [],fun _=>0⟩)) (fun k=>k≤l.length∧atF n l 0=atF n (l.drop k) k) (fun k=>l.length-k) 0 ⟨gB8 _,rfl⟩ (wO ⟨kI,kI,kI,kI,trivial⟩ trivial rfl rfl) fun k i=> ?_
 obtain ⟨i,hr⟩:=i;refine kW ?_;refine kC (fun hb=> ?_) fun hb=> ?_
 ·have g:k<l.length:=by simpa [aP] using hb
  obtain ⟨p,hg⟩: ∃x,l[k]? =some x:=⟨_,gA1 g⟩
  have I:=JC p.1 p.2 n x;rw [HN hg] at hr;have j:=aP l;clear hb;refine kW ?_;refine kP [.c [.str p.1,.str p.2],.v (.bool (decide (p.1=n)))] ?_ ?_
  ·((repeat' apply aI)<;>first|exact kD|(intro r;refine ⟨?_,kG⟩;(repeat' apply aI)<;>first|exact kD|skip)|skip)
   exact jk hg
  refine kC (fun hb=> ?_) fun hb=> ?_
  ·rw [if_pos (gB3 hb)] at hr
   refine kW ?_;refine aR ⟨_,rfl,?_⟩;exact congrArg (AV.int _) hr.symm
  ·rw [if_neg (gB4 hb)] at hr
   refine kW ?_;exact AK.lp ⟨k+1,⟨by omega,hr⟩,wO ⟨kI,kI,kI,kU,trivial⟩ trivial rfl rfl,by omega⟩
 ·have g:k=l.length:=by
   have:l.length≤k:=by simpa [aP] using hb
   omega
  subst g;rw [List.drop_length,atF] at hr;refine AK.exit rfl ?_;refine kW ?_;refine aR ⟨_,rfl,?_⟩;rw [hr];rfl
theorem FC (l:List Fl) (n x:ByteArray) (hl:l.length≤4398046511104):AC Tryz.prog 80 [.lst .any 2 (aH l),.fn 81 [.ro [.str n,.str x]]] (.bool (l.any fun g=>decide (g.1=n))):=by
 have h:=HO l n x hl;rw [←ED n l 0];refine kE Tryz.func80 ff fg fun E i=> ?_
 refine kW ?_;refine kQ [.v (.int .i64 (atF n l 0))] ?_;refine kW ?_;refine aR ⟨_,rfl,?_⟩;rfl
theorem K6 (w:World) (A B:Obj):(w.alloc A).alloc B=grow (w.drewN 0) #[A,B]:=by
 have h:(w.heap.push A).push B=w.heap++ #[A,B]:=by
  apply Array.ext';simp
 unfold grow World.drewN World.alloc;simp only;rw [←h];rfl
set_option maxRecDepth 100000 in
theorem FD (a b c d:ByteArray) (w:World):
  Calls Tryz.prog 84 #[.agg #[.string a,.string b],.agg #[.string c,.string d]] w fun e w' =>e= .returned (.int .i64 (co a c))∧ ∃q os,w' =grow (w.drewN q) os:=by
 obtain ⟨R,g⟩: ∃R,co a c=R:=⟨_,rfl⟩
 have i:=Lib.hid fun w=>HM a c w
 rw [g] at i⊢;clear g
 go_enter Tryz.func84,Tryz.ntmps84
 go_wp2_with (go_at_call 85;refine (i.out _).mono ?_;rintro j w1 ⟨rfl,rfl⟩)
 go_ret
 exact ⟨rfl,0,_,K6 w _ _⟩
def HP (p:Fl):List AV:= [.str p.1,.str p.2]
theorem DJ (p:Fl): ∀c∈HP p,c.clean=true:=by
 intro c g;simp [HP] at g;rcases g with rfl|rfl<;>rfl
theorem vD (l:List Fl):RowsOk 2 (aH l):=⟨by omega,fun c g=>by
 obtain ⟨o,_,rfl⟩:=List.mem_map.1 g;exact ⟨rfl,rfl⟩⟩
theorem HQ {σ:Sg} {cs:List Value} {p:Fl} (h:RelL σ cs (HP p)):cs.toArray= #[.string p.1,.string p.2]:=by
 have hl:=h.1;rcases cs with _|⟨g,_|⟨i,_|⟨_,_⟩⟩⟩<;>simp [HP] at hl
 have j:Rel1 σ g (.str p.1):=h.2 0 _ _ rfl rfl;have r:Rel1 σ i (.str p.2):=h.2 1 _ _ rfl rfl;cases j;cases r;rfl
theorem FE (l:List Fl) (hnd:(l.map (·.1)).Nodup) (hlen:l.length≤1000000) (cap m:Nat) (g:l.length≤cap) (i:((aH l).flatten++List.replicate m AV.top).length=cap*2):
  MS Tryz.prog 83 [(2000000,(aH l).flatten++List.replicate m AV.top)] [.sli 2000000 2 l.length cap,.fn 84 []] [(2000000,(aH (iz l)).flatten++List.replicate m AV.top)] (.tup []):=
 JB Tryz.sortFl (by kernel_rfl) Tryz.isAgg52 Tryz.sizeOf52 HP (fun _=>rfl) DJ Ju (fun p:Fl=>p.1) hnd (by omega) (vp l) ((Bx l hnd).imp fun {a b} h=>el.2 h) _ (enters_of Tryz.func84 (by kernel_rfl) rfl) (fun σ cs ds x y _ _ j r W C=>by
  rw [HQ j,HQ r];exact FD _ _ _ _ W) cap m g i
def DK (i:Nat):Nat:=if i=2000000 then 1000001 else if i=1000001 then 2000000 else i
theorem HS (i j:Nat) (h:DK i=DK j):i=j:=by
 unfold DK at h
 repeat' split at h
 all_goals omega
theorem JD (i:Nat):aW (DK i)=aW i:=by
 unfold DK
 repeat' split
 all_goals first|(subst_vars;rfl)|rfl
theorem ye {g:AV→AV} (i: ∀s,g (.str s)= .str s) (j:g .top= .top) (l:List Fl) (m:Nat):((aH l).flatten++List.replicate m AV.top).map g=(aH l).flatten++List.replicate m AV.top:=by
 rw [List.map_append,List.map_replicate,j];congr 1
 induction l with
 |nil=>rfl
 |cons p l ih=>
  show ([AV.str p.1,AV.str p.2]++(aH l).flatten).map g= [AV.str p.1,AV.str p.2]++(aH l).flatten;rw [List.map_append,ih];show [g (.str p.1),g (.str p.2)]++_=_;rw [i,i]
theorem yf {g:AV→Bool} (C: ∀s,g (.str s)=true) (I:g .top=true) (l:List Fl) (m:Nat):((aH l).flatten++List.replicate m AV.top).all g=true:=by
 rw [List.all_eq_true];intro c i;rcases gB5 i with i|i
 ·obtain ⟨r,hr,j⟩:=List.mem_flatten.1 i
  obtain ⟨p,_,rfl⟩:=List.mem_map.1 hr;simp at j;rcases j with rfl|rfl<;>exact C _
 ·rw [(List.mem_replicate.1 i).2]
  exact I
theorem FF (l:List Fl) (hnd:(l.map (·.1)).Nodup) (hlen:l.length≤1000000) (cap m:Nat) (i:l.length≤cap) (j:((aH l).flatten++List.replicate m AV.top).length=cap*2):
  MS Tryz.prog 83 [(1000001,((aH l).flatten++List.replicate m AV.top).map AV.told)] [.sli 1000001 2 l.length cap,.fn 84 []] [(1000001,(aH (iz l)).flatten++List.replicate m AV.top)] (.tup []):=by
 have h:=(FE l hnd hlen cap m i j).ren DK HS JD;unfold my at h;simp only [List.map_cons,List.map_nil,ye (g:=AV.ren DK) (fun _=>rfl) rfl] at h;rw [ye (fun _=>rfl) rfl];exact h
theorem BG (f:AV) (r:f.arg=some f):AC Tryz.prog 83 [.lst .any 2 [],f] (.tup []):=by
 refine ⟨by kernel_rfl,fun σ w vs g hr hg=> ?_⟩
 obtain ⟨v1,v2,rfl⟩: ∃a b,vs= [a,b]:=by
  have:=hr.1;rcases vs with _|⟨a,_|⟨b,_|⟨_,_⟩⟩⟩<;>simp at this
  exact ⟨a,b,rfl⟩
 have i:Rel1 σ v1 (.lst .any 2 []):=hr.2 0 v1 _ rfl rfl;cases i with
 |lst t esz l A n cap b o f hn hlen hA hsz C hr ht=>
  subst hn;refine (AnyF.slices_SortFunc_none Tryz.sortFl A cap v2 w).mono ?_;rintro e w' ⟨rfl,rfl⟩;exact ⟨σ,.tuple #[],rfl,.refl _ _,g,.refl _ _,[],rfl,rfl,fun j u x p=>by simp at p⟩
theorem HT (l:List Fl) (m:Nat) (i:Nat→Option (List AV×Bool)):(okS [1000001] [(1000001,(aH l).flatten++List.replicate m AV.top)] (.tup [])&&aX i (ap [1000001] [(1000001,(aH l).flatten++List.replicate m AV.top)]))=true:=by
 have h:=yf (g:=AV.inS [1000001]) (fun _=>rfl) rfl l m;unfold okS;show (((true&&true)&&((((aH l).flatten++List.replicate m AV.top).all (AV.inS [1000001]))&&true)&&true)&&true)=true;rw [h];rfl
set_option maxHeartbeats 4000000 in
theorem JE (l:List Fl) (hl:l.length≤4398046511103) (hz:l.length≤32→ ∀p∈l,p.1.size≤1000000):AC Tryz.prog 39 [.lst .any 2 (aH l)] (.tup [.lst .any 2 (aH (bj l).1),.str (bj l).2.1,.int .i64 (bj l).2.2]):=by
 generalize j:bj l=R;have hRe:(bj l).2.2=0→l.length≤32∧(l.map (·.1)).Nodup∧(∀f∈l,pf f.1=true∧f.2.size≤65536)∧(bj l).1=iz l∧(eo [] l).2=0:=xX;unfold bj at j;refine kE Tryz.func39 qG qH fun E hE=> ?_
 refine kW ?_;refine kC (fun hb=> ?_) fun hb=> ?_
 ·have r:32<l.length:=by
   have:(l.length:Int)>32:=by simpa [aP] using hb
   omega
  rw [if_pos r] at j;subst j;refine kW ?_;refine aR ⟨_,rfl,?_⟩;rfl
 have r: ¬32<l.length:=by
  have: ¬(l.length:Int)>32:=by simpa [aP] using hb
  omega
 rw [if_neg r] at j;clear hb;refine kW ?_;refine aJ (fun k:Nat=>(au [(0,.lst .any 2 (aH l)),(10,.lst .any 2 (aH l)),(11,.int .i64 (aH l).length),(12,.int .i64 k)],⟨ag [],fun _=>0⟩)) (fun k=>k≤l.length∧eo [] l=eo (l.take k) (l.drop k)) (fun k=>l.length-k) 0 ⟨gB8 _,rfl⟩ (wO ⟨kI,kI,kI,kI,trivial⟩ trivial rfl rfl) fun k hk=> ?_
 obtain ⟨hk,C⟩:=hk;have hll:=aP l;refine kW ?_;refine kC (fun hb=> ?_) fun hb=> ?_
 ·have I:k<l.length:=by simpa [aP] using hb
  obtain ⟨p,hg⟩: ∃x,l[k]? =some x:=⟨_,gA1 I⟩
  have hnm:=K5 p.1 (hz (by omega) p (gA2 hg));have i:=Fy hg;have hh:=FC (l.take k) p.1 p.2 (by rw [gA7];omega)
  have hh:AC Tryz.prog 80 [.lst .any 2 (List.drop (Int.toNat 0) (List.take (k:Int).toNat (aH l))),.fn 81 [.ro [.str p.1,.str p.2]]] (.bool ((l.take k).any fun g=>decide (g.1=p.1))):=by
   rw [show List.drop (Int.toNat 0) (List.take (k:Int).toNat (aH l))=aH (l.take k) by
    rw [Int.toNat_natCast];unfold aH;rw [List.map_take];rfl]
   exact hh
  rw [←C] at i;clear hb;refine kW ?_;refine kP [.c [.str p.1,.str p.2]] ?_ ?_
  ·((repeat' apply aI)<;>first|exact kD|(intro hgd;refine ⟨?_,kG⟩;(repeat' apply aI)<;>first|exact kD|skip)|skip)
   all_goals exact jk hg
  refine kW ?_;refine kQ [.v (.bool (pf p.1))] ?_;cases hn:pf p.1 with
  |false=>
   have J:gR (l.take k) p=22:=by unfold gR;rw [if_pos hn]
   rw [J,if_pos (by decide)] at i;rw [i,if_pos (by dsimp only;decide)] at j;subst j;refine kCt ?_;refine kW ?_;refine aR ⟨_,rfl,?_⟩;rfl
  |true=>
   refine kCf ?_;refine kW ?_;refine kC (fun hb=> ?_) fun hb=> ?_
   ·have hs:65536<p.2.size:=by
     have:(p.2.size:Int)>65536:=by simpa using hb
     omega
    have J:gR (l.take k) p=6:=by unfold gR;rw [if_neg (by rw [hn];simp),if_pos hs]
    rw [J,if_pos (by decide)] at i;rw [i,if_pos (by dsimp only;decide)] at j;subst j;refine kW ?_;refine aR ⟨_,rfl,?_⟩;rfl
   have hs: ¬65536<p.2.size:=by
    have: ¬(p.2.size:Int)>65536:=by simpa using hb
    omega
   clear hb;refine kW ?_;refine kP [.v (.bool ((l.take k).any fun g=>decide (g.1=p.1)))] ?_ ?_
   ·((repeat' apply aI)<;>first|exact kD|(intro hgd;refine ⟨?_,kG⟩;(repeat' apply aI)<;>first|exact kD|skip)|skip)
    all_goals omega
   cases ha:(l.take k).any fun g=>decide (g.1=p.1) with
   |true=>
    have J:gR (l.take k) p=13:=by unfold gR;rw [if_neg (by rw [hn];simp),if_neg hs,if_pos ha]
    rw [J,if_pos (by decide)] at i;rw [i,if_pos (by dsimp only;decide)] at j;subst j;refine kCt ?_;refine kW ?_;refine aR ⟨_,rfl,?_⟩;rfl
   |false=>
    have J:gR (l.take k) p=0:=by unfold gR;rw [if_neg (by rw [hn];simp),if_neg hs,if_neg (by rw [ha];simp)]
    rw [J,if_neg (by decide)] at i;refine kCf ?_;refine kW ?_;exact AK.lp ⟨k+1,⟨by omega,i⟩,wO ⟨kI,kI,kI,kU,trivial⟩ trivial rfl rfl,by omega⟩
 ·have I:k=l.length:=by
   have:l.length≤k:=by simpa [aP] using hb
   omega
  subst I;clear hb hk;rw [List.drop_length,eo] at C;rw [C,if_neg (by decide)] at j;subst j
  have hR2:(bj l).2.2=0:=by
   unfold bj;rw [if_neg r,C,if_neg (by decide)]
  obtain ⟨_,hnd,_,_,_⟩:=hRe hR2;refine AK.exit rfl ?_;by_cases T:l= []
  ·subst T
   have U:=By;have h2:=BG (.fn 84 []) rfl;refine kW ?_;refine kQ [.v (.lst .any 2 [])] ?_;refine kW ?_;refine kQ [.v (.tup [])] ?_;refine kW ?_;refine aR ⟨_,rfl,?_⟩;rfl
  ·have hpos:0<l.length:=List.length_pos_iff.2 T
   have U:=DD (aH l) (by omega) (by omega);refine kW ?_;refine kQ [.f 2 (aH l)] ?_;refine AK.open 41 41 1000001 rfl (by omega) rfl fun cap m U h2=> ?_
   rw [aP] at U;have hS:=FF l hnd (by omega) cap m U h2;have hokS:=HT (iz l) m;have P:=xW l;have hfl: ∀l:List Fl,(aH l).flatten.length=l.length*2:=fun l=>by rw [(vD l).flat.1,aP]
   have hC:=RowCs.mk_ (vD (iz l)) (cap:=cap) (m:=m) (by rw [aP,P];exact U) (by
    have:=h2;rw [gA5,hfl] at this;rw [gA5,hfl,P];exact this)
   refine AK.weak (wN (L:= [(0,.sli 1000001 2 l.length cap),(41,.sli 1000001 2 l.length cap)]) (BL:= [(1000001,(aH l).flatten++List.replicate m AV.top,false)]) ⟨⟨_,rfl,.of_eq (by show AV.sli 1000001 2 (aH l).length cap=_;rw [aP])⟩,⟨_,rfl,.of_eq (by show AV.sli 1000001 2 (aH l).length cap=_;rw [aP])⟩,trivial⟩ ⟨kJ,trivial⟩ rfl rfl ⟨yf (fun _=>rfl) rfl _ _,trivial⟩) ?_;refine kW ?_;refine kP [.s [1000001] [(1000001,(aH (iz l)).flatten++List.replicate m AV.top)] (.tup [])] ?_ ?_
   ·(repeat' apply aI)<;>first|exact hS|exact hokS _|exact kD
   refine kW ?_;refine AK.fz 1000001 rfl ?_;refine AK.weak (wN (L:= [(2,.lst .any 2 (aH (iz l))),(3,.str ⟨#[]⟩),(4,.int .i64 0)]) (BL:= []) ⟨⟨_,rfl,?_⟩,kI,kI,trivial⟩ trivial rfl rfl trivial) ?_
   ·show AVle _ (.sli 1000001 2 l.length cap) _
    have hn:l.length=(aH (iz l)).length:=by rw [aP,P]
    rw [hn];exact .one (hC.le rfl)
   refine aR ⟨_,rfl,?_⟩;rfl
end
section
set_option maxRecDepth 100000
def bS:ACode:=
 .seq (gQ [gJ 4 0]) (.seq (gQ [gM 12 1,gC 13 13 [.s 12],gM 11 13,gX 14 0 11,gX 15 1 11,⟨gO,.alloc 5 gZ⟩,gT 6 5 14,gM 6 15]) (.seq (.seq (gQ [gM 16 6,gU 17 .neq 16 0]) (.cond (.s 17) (.seq (gQ [gM 18 6,gM 4 18]) .ret) .skip)) (.seq (gQ [gA 20 6 5,⟨gO,.call (some 21) (.k (.fn 38 [])) [.s 20,gS ⟨#[110,97,109,101]⟩]⟩,gM 19 21,gX 22 0 19,gX 23 1 19,⟨gO,.alloc 7 gZ⟩,gT 6 7 22,gM 8 23]) (.seq (gQ [gA 25 6 5,⟨gO,.call (some 26) (.k (.fn 38 [])) [.s 25,gS ⟨#[118,101,114,115,105,111,110]⟩]⟩,gM 24 26,gX 27 0 24,gX 28 1 24,⟨gO,.alloc 9 gZ⟩,gT 6 9 27,gM 10 28]) (.seq (.seq (gQ [gF 29 0 7,gL 30 29,gU 31 .neq 30 3,gM 32 31,⟨some (32,false),.off 33 0 (.s 9)⟩,⟨some (32,false),.ld 34 1 false (.s 33)⟩,⟨some (32,false),.bin 35 .neq false (.s 34) (gI 3)⟩,⟨gO,.pick 36 (.s 32) (.k (.bool true)) (.s 35)⟩,gM 37 36,⟨some (37,false),.off 38 3 (.s 7)⟩,⟨some (37,false),.ld 39 1 false (.s 38)⟩,⟨some (37,false),.call (some 40) (.k (.fn 53 [])) [.s 39]⟩,⟨some (37,false),.un 41 .not (.s 40)⟩,⟨gO,.pick 42 (.s 37) (.k (.bool true)) (.s 41)⟩,gM 43 42,⟨some (43,false),.off 44 3 (.s 9)⟩,⟨some (43,false),.ld 45 1 false (.s 44)⟩,⟨some (43,false),.bin 46 .eql false (.s 45) (gS ⟨#[]⟩)⟩,⟨gO,.pick 47 (.s 43) (.k (.bool true)) (.s 46)⟩,gM 48 47,⟨some (48,false),.off 49 3 (.s 7)⟩,⟨some (48,false),.ld 50 1 false (.s 49)⟩,⟨some (48,false),.len 51 true (.s 50)⟩,⟨some (48,false),.off 52 3 (.s 9)⟩,⟨some (48,false),.ld 53 1 false (.s 52)⟩,⟨some (48,false),.len 54 true (.s 53)⟩,⟨some (48,false),.bin 55 .add false (.s 51) (.s 54)⟩,⟨some (48,false),.bin 56 .gtr false (.s 55) (gI 256)⟩,⟨gO,.pick 57 (.s 48) (.k (.bool true)) (.s 56)⟩]) (.cond (.s 57) (.seq (gQ [gJ 4 25]) .ret) .skip)) (.seq (.rega [gM 58 0,gM 59 0,gF 60 3 7,gL 61 60,gF 62 3 9,gL 63 62,gF 64 0 58,gF 65 0 64,gT 1 65 61,gF 66 0 59,gF 67 1 66,gT 1 67 63] [[],[],[],[2],[],[4],[0,0,2,3],[6,0,2,3],[7,3,0,2,3],[1,0,1,2,3,4,5,6,7,8],[9,0,1,2,3,4,5,6,7,8],[10,5,8,0,1,2,3,4,5,6,7,8]]) (.seq (gQ [gJ 4 0]) .ret)))))))
def nY:AFn:=⟨2,68,bS,[.tmp 4]⟩
theorem eI:ax Tryz.prog mU2 Tryz.f40=some nY:=kk
theorem eJ:aa Tryz.prog 40=true:=kk
def b6:ACode:=
 .seq (gQ [gJ 4 0]) (.seq (gQ [gM 8 1,gC 9 13 [.s 8],gM 7 9,gX 10 0 7,gX 11 1 7,⟨gO,.alloc 5 gZ⟩,gT 6 5 10,gM 6 11]) (.seq (.block 0 (.seq (gQ [gM 13 6,gU 14 .neq 13 0,gM 12 14]) (.cond (.s 12) (.seq (gQ [gM 15 6,gM 4 15]) .ret) (.seq (gQ [gF 17 0 5,gL 18 17,gU 19 .eql 18 0,gM 16 19]) (.cond (.s 16) (.seq (gQ [gJ 4 0]) .ret) (.seq (gQ [gF 21 0 5,gL 22 21,gU 23 .neq 22 5,gM 20 23]) (.cond (.s 20) (.seq (gQ [gJ 4 8]) .ret) .skip))))))) (.seq (gQ [gM 24 0,gA 25 6 5,gF 26 0 24,gF 27 2 26,gT 6 27 25]) (.seq (gQ [gJ 4 0]) .ret))))
def pg:AFn:=⟨2,28,b6,[.tmp 4]⟩
theorem fh:ax Tryz.prog mU2 Tryz.f41=some pg:=kk
theorem fi:aa Tryz.prog 41=true:=kk
def j7:ACode:=
 .seq (gQ [gP 4 1,⟨gO,.alloc 6 gZ⟩]) (.seq (.seq (gQ [gM 8 0,⟨gO,.eqs 9 false 30 (.s 8) (.k (.raw (Value.pointer none)))⟩]) (.cond (.s 9) (.seq (gQ [gC 10 44 [],gT 6 6 10]) .ret) .skip)) (.seq (gQ [gM 11 0,gF 12 0 11,gF 13 0 12,gL 14 13,gC 15 45 [.s 14],⟨gO,.build 16 [.str ⟨#[]⟩,.int .i64 0,.bool false,.int .i64 0,.str ⟨#[]⟩,.lst .nil 6 [],.lst .nil 7 []] [(0,1,gS ⟨#[78,97,109,101]⟩),(1,6,.s 15)]⟩,gM 17 0,gF 18 0 17,gF 19 1 18,gL 20 19,gC 21 45 [.s 20],⟨gO,.build 22 [.str ⟨#[]⟩,.int .i64 0,.bool false,.int .i64 0,.str ⟨#[]⟩,.lst .nil 6 [],.lst .nil 7 []] [(0,1,gS ⟨#[86,101,114,115,105,111,110]⟩),(1,6,.s 21)]⟩,⟨gO,.bsl 23 2 7 [.str ⟨#[]⟩,.int .i64 0,.bool false,.int .i64 0,.str ⟨#[]⟩,.lst .nil 6 [],.lst .nil 7 [],.str ⟨#[]⟩,.int .i64 0,.bool false,.int .i64 0,.str ⟨#[]⟩,.lst .nil 6 [],.lst .nil 7 []] [(0,7,.s 16),(7,7,.s 22)]⟩,gC 24 36 [.s 23],⟨gO,.alloc 7 gZ⟩,gT 6 7 24]) (.seq (gQ [gA 25 6 4,⟨gO,.build 26 [.str ⟨#[]⟩,.int .i64 0,.bool false,.int .i64 0,.str ⟨#[]⟩,.lst .nil 6 [],.lst .nil 7 []] [(0,1,gS ⟨#[86,97,108,117,101,115]⟩),(1,6,.s 25)]⟩,gA 27 6 7,⟨gO,.build 28 [.str ⟨#[]⟩,.int .i64 0,.bool false,.int .i64 0,.str ⟨#[]⟩,.lst .nil 6 [],.lst .nil 7 []] [(0,1,gS ⟨#[67,104,97,114,116]⟩),(1,6,.s 27)]⟩,gM 29 2,gC 30 45 [.s 29],⟨gO,.build 31 [.str ⟨#[]⟩,.int .i64 0,.bool false,.int .i64 0,.str ⟨#[]⟩,.lst .nil 6 [],.lst .nil 7 []] [(0,1,gS ⟨#[78,97,109,101]⟩),(1,6,.s 30)]⟩,⟨gO,.bsl 32 1 7 [.str ⟨#[]⟩,.int .i64 0,.bool false,.int .i64 0,.str ⟨#[]⟩,.lst .nil 6 [],.lst .nil 7 []] [(0,7,.s 31)]⟩,gC 33 36 [.s 32],⟨gO,.build 34 [.str ⟨#[]⟩,.int .i64 0,.bool false,.int .i64 0,.str ⟨#[]⟩,.lst .nil 6 [],.lst .nil 7 []] [(0,1,gS ⟨#[82,101,108,101,97,115,101]⟩),(1,6,.s 33)]⟩,⟨gO,.bsl 35 3 7 [.str ⟨#[]⟩,.int .i64 0,.bool false,.int .i64 0,.str ⟨#[]⟩,.lst .nil 6 [],.lst .nil 7 [],.str ⟨#[]⟩,.int .i64 0,.bool false,.int .i64 0,.str ⟨#[]⟩,.lst .nil 6 [],.lst .nil 7 [],.str ⟨#[]⟩,.int .i64 0,.bool false,.int .i64 0,.str ⟨#[]⟩,.lst .nil 6 [],.lst .nil 7 []] [(0,7,.s 26),(7,7,.s 28),(14,7,.s 34)]⟩,gC 36 36 [.s 35],gT 6 6 36]) .ret)))
def zL:AFn:=⟨3,37,j7,[.cell 6 6 true]⟩
theorem kK:ax Tryz.prog mU2 Tryz.f11=some zL:=kk
theorem kM:aa Tryz.prog 11=true:=kk
def wY:ACode:=
 .seq (gQ [⟨gO,.mov 2 (.k (.bool false))⟩]) (.seq (gQ [gJ 3 0]) (.seq (.seq (gQ [gM 6 0,gH 7 false 6,gJ 8 0]) (.block 0 (.loop (.seq (gQ [gV 9 .lss 8 7]) (.seq (.cond (.s 9) .skip (.exit 0)) (.seq (.block 1 (.seq (gQ [gE 10 2 6 8,gA 11 2 10,⟨gO,.alloc 5 [.str ⟨#[]⟩,.str ⟨#[]⟩]⟩,gT 2 5 11]) (.reg [gM 12 3,gF 13 0 5,gL 14 13,gH 15 true 14,gF 16 1 5,gL 17 16,gH 18 true 17,gV 19 .add 15 18,gU 20 .add 19 1,gV 21 .add 12 20,gM 3 21]))) (.reg [gU 22 .add 8 1,gM 8 22]))))))) (.seq (gQ [gM 23 3,gU 24 .leq 23 3000,gM 2 24]) .ret)))
def wZ:AFn:=⟨1,25,wY,[.tmp 2]⟩
theorem qJ:ax Tryz.prog mU2 Tryz.f7=some wZ:=kk
theorem qK:aa Tryz.prog 7=true:=kk
end
section
open Go.RowKit
theorem lX:V.null.checkC=0:=by decide+kernel
theorem HU (s:ByteArray):((bL s).2=0∧(bL s).1.checkC=0)∨((bL s).2≠0∧(bL s).1=V.null):=by
 unfold bL Df;split
 ·exact .inr ⟨by decide,rfl⟩
 split
 ·exact .inr ⟨by decide,rfl⟩
 split
 ·exact .inl ⟨rfl,lX⟩
 dsimp only;split
 ·rename_i h;exact .inr ⟨h,rfl⟩
 split
 ·exact .inr ⟨by decide,rfl⟩
 split
 ·rename_i h;exact .inr ⟨h,rfl⟩
 ·rename_i h;exact .inl ⟨rfl,by simpa using h⟩
theorem vE (s:ByteArray):(bL s).1.good∧(bL s).1.size≤4096:=by
 rcases HU s with ⟨_,h⟩|⟨_,h⟩
 ·exact ⟨(V.check_good h).1,(V.check_good h).2.1⟩
 ·rw [h];exact ⟨(V.check_good lX).1,(V.check_good lX).2.1⟩
theorem HV {v:V} (h:v.good) {p:ByteArray×V} (i:p∈v.m):p.1.size≤256∧p.2.good:=by
 have g:=(xH v.m).1 ((V.good_eq v).1 h).2.2.2.1 p i;have:=g.1;simp only [pV,gA9,gB0] at this;exact ⟨this.2.2,g.2⟩
theorem FG {s:ByteArray} (h:dt s=true):s.size≤65536:=by
 simp only [dt,gA9,gB0] at h;exact h.2
end
section
set_option maxRecDepth 100000
def w8:ACode:=
 .seq (gQ [⟨gO,.mov 0 (.k (.bool false))⟩]) (.seq (gQ [gC 6 37 [gI 1],⟨gO,.build 7 [.str ⟨#[]⟩,.int .i64 0,.bool false,.int .i64 0,.str ⟨#[]⟩,.lst .nil 6 [],.lst .nil 7 []] [(0,1,gS ⟨#[97]⟩),(1,6,.s 6)]⟩,⟨gO,.bsl 8 1 7 [.str ⟨#[]⟩,.int .i64 0,.bool false,.int .i64 0,.str ⟨#[]⟩,.lst .nil 6 [],.lst .nil 7 []] [(0,7,.s 7)]⟩,gC 9 36 [.s 8],⟨gO,.call (some 10) (.k (.fn 35 [])) [.s 9,gS ⟨#[98,46,99,61,120]⟩]⟩,gM 5 10,gX 11 0 5,gX 12 1 5,⟨gO,.alloc 1 gZ⟩,gT 6 1 11,gM 2 12]) (.seq (gQ [gA 14 6 1,⟨gO,.call (some 15) (.k (.fn 38 [])) [.s 14,gS ⟨#[98]⟩]⟩,gM 13 15,gX 16 0 13,gX 17 1 13,⟨gO,.alloc 3 gZ⟩,gT 6 3 16,gM 4 17]) (.seq (gQ [gM 18 2,gU 19 .eql 18 0,gM 20 19,gN 20 true 21 4,⟨gO,.pick 22 (.s 20) (.s 21) (.k (.bool false))⟩,gM 23 22,⟨some (23,true),.off 24 5 (.s 1)⟩,⟨some (23,true),.ld 25 1 false (.s 24)⟩,⟨some (23,true),.len 26 false (.s 25)⟩,⟨some (23,true),.bin 27 .eql false (.s 26) (gI 2)⟩,⟨gO,.pick 28 (.s 23) (.s 27) (.k (.bool false))⟩,gM 29 28,⟨some (29,true),.off 30 5 (.s 3)⟩,⟨some (29,true),.ld 31 1 false (.s 30)⟩,⟨some (29,true),.len 32 false (.s 31)⟩,⟨some (29,true),.bin 33 .eql false (.s 32) (gI 1)⟩,⟨gO,.pick 34 (.s 29) (.s 33) (.k (.bool false))⟩,gM 35 34,⟨some (35,true),.off 36 5 (.s 3)⟩,⟨some (35,true),.ld 37 1 false (.s 36)⟩,⟨some (35,true),.idx 38 7 (.s 37) (gI 0)⟩,⟨some (35,true),.off 39 1 (.s 38)⟩,⟨some (35,true),.off 40 3 (.s 39)⟩,⟨some (35,true),.ld 41 1 false (.s 40)⟩,⟨some (35,true),.bin 42 .eql false (.s 41) (gS ⟨#[120]⟩)⟩,⟨gO,.pick 43 (.s 35) (.s 42) (.k (.bool false))⟩,gM 0 43]) .ret)))
def xa:AFn:=⟨0,44,w8,[.tmp 0]⟩
theorem qL:ax Tryz.prog mU2 Tryz.f9=some xa:=kk
theorem qM:aa Tryz.prog 9=true:=kk
end
end Go.Proofs.YtbgflifmanjpjaaGreatDoor
