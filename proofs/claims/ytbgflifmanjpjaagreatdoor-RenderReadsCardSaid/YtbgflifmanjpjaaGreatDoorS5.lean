/- Part 5. -/
import Derived.Test.YtbgflifmanjpjaaGreatDoorS4
set_option linter.unusedSimpArgs false
set_option linter.unusedVariables false
namespace Go.Proofs.YtbgflifmanjpjaaGreatDoor
section
open Go.RowKit
def GI.looks (x:GI):List Nat:=x.i.reads++match x.g with
 |some (s,_)=> [s]
 |none=> []
def va (fr:Fr) (d:Option Nat) (v:Option AV):Fr:=
 match d with
 |some d=>upd fr d v
 |none=>fr
theorem qx (fr:Fr) {d d' :Option Nat} (v j:Option AV) (h: ∀x,d=some x→d' ≠some x):va (va fr d v) d' j=va (va fr d' j) d v:=by
 cases d with
 |none=>cases d' <;>rfl
 |some a=>cases d' with
  |none=>rfl
  |some b=>
   have g:a≠b:=fun e=>h a rfl (by rw [e])
   funext s;simp only [va,ax];by_cases i:s=b
   ·subst i;rw [if_pos rfl,if_pos rfl,if_neg (fun e=>g e.symm)]
   ·rw [if_neg i,if_neg i]
theorem aT {fr:Fr} {d:Nat} (v:Option AV) {x:Opd} (h:d∉x.slots):x.ev (upd fr d v)=x.ev fr:=by
 cases x with
 |s n=>exact cU _ _ (fun e=>h (by simp [Opd.slots,e]))
 |k a=>rfl
theorem uz {fr:Fr} {d:Nat} (v:Option AV): ∀{l:List Opd},d∉l.flatMap Opd.slots→evs (upd fr d v) l=evs fr l
 | [],_=>rfl
 |x::l,h=>by
  simp only [List.flatMap_cons,List.mem_append,not_or] at h;simp only [evs,aT v h.1,uz v h.2]
theorem qy {fr:Fr} {d:Nat} (v:Option AV): ∀{ps:List (Nat×Nat×Opd)} {z:List AV},d∉ps.flatMap (fun x=>x.2.2.slots)→sg (upd fr d v) z ps=sg fr z ps
 | [],_,_=>rfl
 |(off,size,x)::l,z,h=>by
  simp only [List.flatMap_cons,List.mem_append,not_or] at h;simp only [sg,aT v h.1];split
  ·split
   ·split
    ·split
     ·exact qy v h.2
     ·rfl
    ·rfl
   ·rfl
  ·rfl
theorem vd {fr:Fr} {d:Nat} (v:Option AV): ∀{l:List Opd} {st:St},d∉l.flatMap Opd.slots→freeze st (upd fr d v) l=freeze st fr l
 | [],_,_=>rfl
 |x::l,st,h=>by
  simp only [List.flatMap_cons,List.mem_append,not_or] at h;simp only [freeze,aT v h.1];have ih:=fun st=>vd (fr:=fr) v (l:=l) (st:=st) h.2
  simp only [ih]
theorem pp {fr:Fr} {d:Nat} (v:Option AV) {k:Int} {x:Option Opd} (h:d∉uK x):cw (upd fr d v) k x=cw fr k x:=by
 cases x with
 |none=>rfl
 |some x=>simp only [cw,aT v (show d∉x.slots from h)]
section
variable {P:Program}
theorem ao (fr:Fr) {d d' :Nat} (v:Option AV) (a:AV) (h:d' ≠d):aG (upd fr d v) d' a=upd (aG fr d' a) d v:=by
 have:=qx fr (d:=some d) (d' :=some d') v (some a) (fun x g e=>h (by cases g;cases e;rfl));exact this
set_option maxHeartbeats 1000000 in
theorem Bx (i:AI) (rs:Option RS) (fr:Fr) (st:St) {d:Nat} (v:Option AV) (hr:d∉i.reads) (g:i.dst≠some d) (C:i.cl≠ .hard):aj P i rs (upd fr d v) st=(aj P i rs fr st).map fun r=>(upd r.1 d v,r.2):=by
 cases i<;>simp only [AI.reads,AI.dst,List.mem_append,not_or,ne_eq,gB9] at hr g
 case mov d' x=>
  simp only [aj,aT v hr];cases x.ev fr<;>simp [ao fr v _ g]
 case pick d' c x y=>
  simp only [aj,aT v hr.1,aT v hr.2.1,aT v hr.2.2];split
  ·split
   ·split<;>first|rfl|simp [ao fr v _ g]
   ·split
    ·rw [aT v hr.2.1]
     split<;>first|rfl|simp [ao fr v _ g]
    ·rfl
  ·rfl
 case box d' x=>
  simp only [aj,aT v hr];split
  ·split<;>simp [ao fr v _ g]
  ·rfl
 case alloc d' z=>
  simp only [aj];split<;>simp [ao fr v _ g]
 case ld d' n agg x=>
  simp only [aj,aT v hr];split
  ·split
   ·split
    ·split
     ·split<;>simp [ao fr v _ g]
     ·split<;>simp [ao fr v _ g]
    ·rfl
   ·rfl
  ·split
   ·split<;>simp [ao fr v _ g]
   ·split<;>simp [ao fr v _ g]
  ·split
   ·split
    ·split
     ·split<;>simp [ao fr v _ g]
     ·split<;>simp [ao fr v _ g]
    ·rfl
   ·rfl
  ·split
   ·split
    ·split
     ·split<;>simp [ao fr v _ g]
     ·split<;>simp [ao fr v _ g]
    ·rfl
   ·rfl
  ·rfl
 case st n x y=>
  simp only [aj,aT v hr.1,aT v hr.2];split
  ·split
   ·split<;>rfl
   ·rfl
  ·split
   ·split<;>rfl
   ·rfl
  ·split
   ·split<;>rfl
   ·rfl
  ·rfl
 case off d' k x=>
  simp only [aj,aT v hr];split
  ·simp [ao fr v _ g]
  ·split<;>simp [ao fr v _ g]
  ·simp [ao fr v _ g]
  ·split<;>simp [ao fr v _ g]
  ·rfl
 case b2s d' x=>
  simp only [aj,aT v hr];split
  ·split<;>simp [ao fr v _ g]
  ·rfl
 case offi d' n e x y=>
  simp only [aj,aT v hr.1,aT v hr.2];split
  ·simp [ao fr v _ g]
  ·split<;>simp [ao fr v _ g]
  ·rfl
 case idx d' e x y=>
  simp only [aj,aT v hr.1,aT v hr.2];split<;>simp [ao fr v _ g]
 case bin d' op bt x y=>
  simp only [aj,aT v hr.1,aT v hr.2];split
  ·split<;>simp [ao fr v _ g]
  ·rfl
 case un d' op x=>
  simp only [aj,aT v hr];split
  ·split<;>simp [ao fr v _ g]
  ·rfl
 case build d' z ps=>
  simp only [aj,qy v hr];split<;>simp [ao fr v _ g]
 case bsl d' n e z ps=>
  simp only [aj,qy v hr];split
  ·split<;>simp [ao fr v _ g]
  ·rfl
 case len d' s x=>
  simp only [aj,aT v hr];split<;>simp [ao fr v _ g]
 case app d' e b x y=>
  simp only [aj,aT v hr.1,aT v hr.2];split<;>simp [ao fr v _ g]
 case ext d' k x=>
  simp only [aj,aT v hr];split
  ·split<;>simp [ao fr v _ g]
  ·rfl
 case call d' f args=>
  simp only [aj,aT v hr.1,uz v hr.2];split
  ·split
   ·cases d' with
    |none=>rfl
    |some d' =>simp [ao fr v _ (show d' ≠d from fun e=>g (by rw [e]))]
   ·rfl
  ·split
   ·rename_i p _
    have j:p≠d:=fun e=>g (by rw [e])
    rw [cU fr v j];split
    ·simp [ao fr v _ j]
    ·rfl
   ·rfl
  ·rfl
 case callo d' f args=>
  simp only [aj,aT v hr.1,uz v hr.2];split
  ·split
   ·cases d' with
    |none=>rfl
    |some d' =>simp [ao fr v _ (show d' ≠d from fun e=>g (by rw [e]))]
   ·rfl
  ·split
   ·rename_i p _
    have j:p≠d:=fun e=>g (by rw [e])
    simp [ao fr v _ j]
   ·rfl
  ·rfl
 case callr d' f args=>
  simp only [aj,aT v hr.1,uz v hr.2];split
  ·split
   ·rename_i p _ _
    have j:p≠d:=fun e=>g (by rw [e])
    rw [cU fr v j];split
    ·simp [ao fr v _ j]
    ·rfl
   ·rfl
  ·split
   ·rename_i p _
    have j:p≠d:=fun e=>g (by rw [e])
    rw [cU fr v j];split
    ·simp [ao fr v _ j]
    ·rfl
   ·rfl
  ·split
   ·cases d' with
    |none=>rfl
    |some d' =>simp [ao fr v _ (show d' ≠d from fun e=>g (by rw [e]))]
   ·rfl
  ·split
   ·cases d' with
    |none=>rfl
    |some d' =>simp [ao fr v _ (show d' ≠d from fun e=>g (by rw [e]))]
   ·rfl
  ·split
   ·rename_i p _
    have j:p≠d:=fun e=>g (by rw [e])
    rw [cU fr v j];split
    ·simp [ao fr v _ j]
    ·rfl
   ·rfl
  ·rfl
 case appr d' e b x y=>
  have j:d' ≠d:=fun e=>g (by rw [e])
  simp only [aj,aT v hr.1,aT v hr.2];rw [cU fr v j];split
  ·split
   ·simp [ao fr v _ j]
   ·rfl
  ·split
   ·simp [ao fr v _ j]
   ·rfl
  ·rfl
 case calls d' f args=>exact absurd rfl C
 case mop o d' args=>exact absurd rfl C
 case rng t d' x=>exact absurd rfl C
 case nxt d' x=>exact absurd rfl C
 case ent d' x=>exact absurd rfl C
 case sub d' s e x lo hi=>
  simp only [aj,aT v hr.1,pp v hr.2.1,pp v hr.2.2];split
  ·split<;>simp [ao fr v _ g]
  ·split<;>simp [ao fr v _ g]
  ·rfl
 case bidx d' x y=>
  simp only [aj,aT v hr.1,aT v hr.2];split<;>simp [ao fr v _ g]
 case mx d' I x y=>
  simp only [aj,aT v hr.1,aT v hr.2];split<;>simp [ao fr v _ g]
 case conv d' k x=>
  simp only [aj,aT v hr];split<;>simp [ao fr v _ g]
 case mkfn d' f cap=>
  simp only [aj,vd v hr];split<;>simp [ao fr v _ g]
 case eqs d' J t x y=>
  simp only [aj,aT v hr.1,aT v hr.2];split
  ·split<;>simp [ao fr v _ g]
  ·split
   ·split<;>simp [ao fr v _ g]
   ·rfl
  ·split<;>simp [ao fr v _ g]
  ·rfl
theorem K4 {i:AI} {s:Nat} (h:s∈i.unw):s∈i.reads:=by
 cases i<;>first
  |exact h
  |exact List.mem_append_left _ h
theorem I1 (fr:Fr) {d:Nat} (v:Option AV) {l:List Nat} (h:d∉l):unwr (upd fr d v) l=upd (unwr fr l) d v:=by
 funext s;by_cases i:s=d
 ·subst i
  have g:bO s l=false:=by
   cases g:bO s l with
   |false=>rfl
   |true=>exact absurd (pn.1 g) h
  simp only [unwr,g,cf]
 ·simp only [unwr,cU _ v i]
theorem ve (fr:Fr) {d:Nat} (v:Option AV): ∀{l:List Nat},d∉l→fL (upd fr d v) l=fL fr l
 | [],_=>rfl
 |s::l,h=>by
  simp only [List.mem_cons,not_or] at h;simp only [fL,cU fr v (show s≠d from fun e=>h.1 e.symm),ve fr v h.2]
theorem K5 (x:GI) (fr:Fr) {d:Nat} (v:Option AV) (hr:d∉x.looks):x.ctx (upd fr d v)=x.ctx fr:=by
 obtain ⟨g,i⟩:=x;cases g with
 |none=>rfl
 |some g=>
  obtain ⟨s,b⟩:=g;simp only [GI.looks,List.mem_append,not_or] at hr;have:d≠s:=by have:=hr.2;simp at this;exact this
  simp only [GI.ctx,cU fr v (show s≠d from fun e=>this e.symm)]
theorem I2 (x:GI) (rs:Option RS) (fr:Fr) (st:St) {d:Nat} (v:Option AV) (hr:d∉x.looks) (C:x.i.dst≠some d) (I:x.i.cl≠ .hard):bj P x rs (upd fr d v) st=(bj P x rs fr st).map fun r=>(upd r.1 d v,r.2):=by
 have g:d∉x.i.reads:=fun h=>hr (List.mem_append_left _ h)
 have i:d∉x.i.unw:=fun h=>g (K4 h)
 unfold bj;rw [K5 x fr v hr];split
 ·exact Bx x.i rs fr st v g C I
 ·rename_i c _
  split
  ·rename_i d' J j
   have p:d' ≠d:=fun e=>C (by rw [j,e])
   rw [I1 fr v i,Bx x.i rs _ st v g C I,ve fr v i];cases aj P x.i rs (unwr fr x.i.unw) st with
   |none=>rfl
   |some r=>
    obtain ⟨f2,s2,p2⟩:=r;simp only [Option.map_some,cU f2 v p];split
    ·rename_i u hu
     split
     ·rename_i bs R T
      simp only [Option.map_some,gB9,Prod.mk.injEq,and_true];exact qx fr (d:=some d) (d' :=some d') v (some (.when c u)) (fun x U e=>p (by cases U;cases e;rfl))
     ·rfl
    ·rfl
  ·split
   ·rename_i hh;exact absurd hh I
   ·rfl
 ·rfl
def D2:Cl→Cl→Bool
 | .hard,_=>false
 |_,.hard=>false
 | .pure,_=>true
 |_,.pure=>true
 | .ld,.ld| .ld,.app| .ld,.new=>true
 | .app,.ld| .app,.new| .app,.st=>true
 | .new,.app| .new,.new=>true
 | .st,.app| .st,.new=>true
 |_,_=>false
theorem im {a b:Cl} (h:D2 a b=true):a≠ .hard∧b≠ .hard:=by
 cases a<;>cases b<;>first
  |(cases h;done)
  |(refine ⟨?_,?_⟩<;>(intro e;cases e))
theorem By {i:AI} (g:i.cl= .pure) {rs:Option RS} {fr f:Fr} {st s:St} {p:Prop} (h:aj P i rs fr st=some (f,s,p)):s=st∧ ∀st',aj P i rs fr st' =some (f,st',p):=by
 cases i<;>first|cases g|skip
 all_goals
  simp only [aj] at h⊢
  (repeat' (split at h))<;>first
   |(cases h;exact ⟨rfl,fun st' =>rfl⟩)
   |(cases h;done)
   |(cases h;exact ⟨rfl,fun st' =>by simp only [*]⟩)
theorem I3 {i:AI} (j:i.cl= .ld) {rs:Option RS} {fr f:Fr} {st s:St} {p:Prop} (h:aj P i rs fr st=some (f,s,p)):s=st∧ ∀st' :St,(∀id x,st.box id=some x→st'.box id=some x)→aj P i rs fr st' =some (f,st',p):=by
 cases i<;>first|cases j|skip
 rename_i d n agg x;simp only [aj] at h⊢;split at h
 ·split at h
  ·rename_i cs fz hb
   split at h
   ·split at h
    ·split at h
     ·cases h;exact ⟨rfl,fun st' g=>by simp only [*,fV (az hb).2 (g _ _ (az hb).1)]⟩
     ·cases h
    ·split at h
     ·cases h;exact ⟨rfl,fun st' g=>by simp only [*,fV (az hb).2 (g _ _ (az hb).1)]⟩
     ·cases h
   ·cases h
  ·cases h
 ·split at h
  ·split at h
   ·cases h;exact ⟨rfl,fun st' g=>by simp only [*]⟩
   ·cases h
  ·split at h
   ·cases h;exact ⟨rfl,fun st' g=>by simp only [*]⟩
   ·cases h
 ·split at h
  ·rename_i cs fz hb
   split at h
   ·split at h
    ·split at h
     ·cases h;exact ⟨rfl,fun st' g=>by simp only [*,fV (az hb).2 (g _ _ (az hb).1)]⟩
     ·cases h
    ·split at h
     ·cases h;exact ⟨rfl,fun st' g=>by simp only [*,fV (az hb).2 (g _ _ (az hb).1)]⟩
     ·cases h
   ·cases h
  ·cases h
 ·split at h
  ·rename_i cs fz hb
   split at h
   ·split at h
    ·split at h
     ·cases h;exact ⟨rfl,fun st' g=>by simp only [*,fV (az hb).2 (g _ _ (az hb).1)]⟩
     ·cases h
    ·split at h
     ·cases h;exact ⟨rfl,fun st' g=>by simp only [*,fV (az hb).2 (g _ _ (az hb).1)]⟩
     ·cases h
   ·cases h
  ·cases h
 ·cases h
theorem K6 {i:AI} (C:i.cl= .app) {rs:Option RS} {fr f:Fr} {st s:St} {p:Prop} (h:aj P i rs fr st=some (f,s,p)):s.box=st.box∧ ∀st' :St,st'.row=st.row→aj P i rs fr st' =some (f,⟨st'.box,s.row⟩,p):=by
 cases i<;>first|cases C|skip
 case app d e b x y=>
  simp only [aj] at h⊢;split at h
  ·rename_i t j l t2 r m T hy
   cases h;refine ⟨rfl,fun st' g=> ?_⟩;have I:jJ st' d t=jJ st d t:=by cases t<;>simp [jJ,g]
   have J:jK st' d t=jK st d t:=by cases t<;>simp [jK,g]
   have R:uH st' t=uH st t:=by cases t<;>simp [uH,g]
   simp only [I,J,R]
  ·cases h
 case callo d f args=>
  simp only [aj] at h⊢;split at h
  ·split at h
   ·cases h
    exact ⟨rfl,fun st' g=>by simp only [←g]⟩
   ·cases h
  ·split at h
   ·cases h
    exact ⟨rfl,fun st' g=>by simp only [←g]⟩
   ·cases h
  ·cases h
theorem K7 {i:AI} (r:i.cl= .new) {rs:Option RS} {fr f:Fr} {st s:St} {p:Prop} (h:aj P i rs fr st=some (f,s,p)): ∃d x,i.dst=some d∧st.box d=none∧s=⟨upd st.box d (some x),st.row⟩∧ ∀st' :St,st'.box d=none→aj P i rs fr st' =some (f,⟨upd st'.box d (some x),st'.row⟩,p):=by
 cases i<;>first|cases r|skip
 ·rename_i d x
  simp only [aj] at h⊢;split at h
  ·rename_i a C hb
   split at h
   ·rename_i cs g
    cases h;exact ⟨d,(cs,false),rfl,hb,rfl,fun st' j=>by simp only [C,j,g]⟩
   ·cases h
  ·cases h
 ·rename_i d z
  simp only [aj] at h⊢;split at h
  ·rename_i hb
   cases h;exact ⟨d,(z,false),rfl,hb,rfl,fun st' j=>by simp only [j]⟩
  ·cases h
theorem ML {i:AI} (R:i.cl= .st) {rs:Option RS} {fr f:Fr} {st s:St} {p:Prop} (h:aj P i rs fr st=some (f,s,p)): ∃id x y,st.box id=some y∧s=⟨upd st.box id (some x),st.row⟩∧ ∀st' :St,st'.box id=some y→aj P i rs fr st' =some (f,⟨upd st'.box id (some x),st'.row⟩,p):=by
 cases i<;>first|cases R|skip
 rename_i n x y;simp only [aj] at h⊢;split at h
 ·rename_i id esz T k c a r hy
  split at h
  ·rename_i cs g j hb
   split at h
   ·rename_i new C I
    cases h;exact ⟨id,(_,false),(g,false),(az hb).1,rfl,fun st' J=>by simp only [r,hy,j,fV (az hb).2 J,C,I]⟩
   ·cases h
  ·cases h
 ·rename_i id off a r hy
  split at h
  ·rename_i cs g j hb
   split at h
   ·rename_i new C I
    cases h;exact ⟨id,(new,false),(g,false),(az hb).1,rfl,fun st' J=>by simp only [r,hy,j,fV (az hb).2 J,C,I]⟩
   ·cases h
  ·cases h
 ·rename_i id off a r hy
  split at h
  ·rename_i cs g j hb
   split at h
   ·rename_i new C I
    cases h;exact ⟨id,(new,false),(g,false),(az hb).1,rfl,fun st' J=>by simp only [r,hy,j,fV (az hb).2 J,C,I]⟩
   ·cases h
  ·cases h
 ·cases h
theorem qz {i:AI} (h:i.cl≠ .pure) (g:i.cl≠ .ld):i.still=false:=by
 unfold AI.still;split
 ·rename_i e;exact absurd e h
 ·rename_i e;exact absurd e g
 ·rfl
theorem FS {x:GI} (g:x.i.cl= .pure) {rs:Option RS} {fr f:Fr} {st s:St} {p:Prop} (h:bj P x rs fr st=some (f,s,p)):s=st∧ ∀st',bj P x rs fr st' =some (f,st',p):=by
 unfold bj at h⊢;split at h
 ·exact By g h
 ·split at h
  ·split at h
   ·rename_i f2 J R r
    obtain ⟨e,C⟩:=By g r;split at h
    ·rename_i v I
     split at h
     ·rename_i T i j
      cases h;refine ⟨rfl,fun st' => ?_⟩;simp only [C st',I,i,j]
     ·cases h
    ·cases h
   ·cases h
  ·rw [g] at h;cases h
 ·cases h
theorem Bz {x:GI} (g:x.i.cl= .ld) {rs:Option RS} {fr f:Fr} {st s:St} {p:Prop} (h:bj P x rs fr st=some (f,s,p)):s=st∧ ∀st' :St,(∀id x,st.box id=some x→st'.box id=some x)→bj P x rs fr st' =some (f,st',p):=by
 unfold bj at h⊢;split at h
 ·exact I3 g h
 ·split at h
  ·split at h
   ·rename_i f2 R T r
    obtain ⟨e,C⟩:=I3 g r;split at h
    ·rename_i v I
     split at h
     ·rename_i U i j
      cases h;refine ⟨rfl,fun st' J=> ?_⟩;simp only [C st' J,I,i,j]
     ·cases h
    ·cases h
   ·cases h
  ·rw [g] at h;cases h
 ·cases h
theorem qB {x:GI} (g:x.i.cl= .app) {rs:Option RS} {fr f:Fr} {st s:St} {p:Prop} (h:bj P x rs fr st=some (f,s,p)):s.box=st.box∧ ∀st' :St,st'.row=st.row→bj P x rs fr st' =some (f,⟨st'.box,s.row⟩,p):=by
 have j:=qz (i:=x.i) (by rw [g];simp) (by rw [g];simp);unfold bj at h⊢;split at h
 ·exact K6 g h
 ·rw [j,g] at h;simp at h
 ·cases h
theorem qC {x:GI} (g:x.i.cl= .new) {rs:Option RS} {fr f:Fr} {st s:St} {p:Prop} (h:bj P x rs fr st=some (f,s,p)): ∃d y,x.i.dst=some d∧st.box d=none∧s=⟨upd st.box d (some y),st.row⟩∧ ∀st' :St,st'.box d=none→bj P x rs fr st' =some (f,⟨upd st'.box d (some y),st'.row⟩,p):=by
 have j:=qz (i:=x.i) (by rw [g];simp) (by rw [g];simp);unfold bj at h⊢;split at h
 ·exact K7 g h
 ·rw [j,g] at h;simp at h
 ·cases h
theorem I4 {x:GI} (g:x.i.cl= .st) {rs:Option RS} {fr f:Fr} {st s:St} {p:Prop} (h:bj P x rs fr st=some (f,s,p)): ∃id u y,st.box id=some y∧s=⟨upd st.box id (some u),st.row⟩∧ ∀st' :St,st'.box id=some y→bj P x rs fr st' =some (f,⟨upd st'.box id (some u),st'.row⟩,p):=by
 have j:=qz (i:=x.i) (by rw [g];simp) (by rw [g];simp);unfold bj at h⊢;split at h
 ·exact ML g h
 ·rw [j,g] at h;simp at h
 ·cases h
theorem BA {α:Type} (f:Nat→α) {i j:Nat} (x y:α) (h:i≠j):upd (upd f i x) j y=upd (upd f j y) i x:=by
 funext s;simp only [ax];by_cases g:s=j
 ·subst g;rw [if_pos rfl,if_pos rfl,if_neg (fun e=>h e.symm)]
 ·rw [if_neg g,if_neg g]
theorem MM {i j:GI} (hok:D2 i.i.cl j.i.cl=true) (hd: ∀d,i.i.dst=some d→j.i.dst≠some d) {ri rj:Option RS} {fr f g:Fr} {st s1 s2:St} {p q:Prop} (h1:bj P i ri fr st=some (f,s1,p)) (T:bj P j rj fr s1=some (g,s2,q)):
  ∃s1',bj P j rj fr st=some (g,s1',q)∧bj P i ri fr s1' =some (f,s2,p):=by
 by_cases hip:i.i.cl= .pure
 ·obtain ⟨e,hi⟩:=FS hip h1
  subst e;exact ⟨s2,T,hi s2⟩
 by_cases hjp:j.i.cl= .pure
 ·obtain ⟨e,R⟩:=FS hjp T
  subst e;exact ⟨st,R st,h1⟩
 cases r:i.i.cl<;>cases C:j.i.cl<;>rw [r,C] at hok<;>first|cases hok|skip
 all_goals try exact absurd r hip
 all_goals try exact absurd C hjp
 ·
  obtain ⟨e,hi⟩:=Bz r h1;obtain ⟨I,R⟩:=Bz C T;subst e I;exact ⟨_,T,h1⟩
 ·
  obtain ⟨e,hi⟩:=Bz r h1;subst e;obtain ⟨I,R⟩:=qB C T;exact ⟨s2,T,hi s2 fun id x hx=>by rw [I];exact hx⟩
 ·
  obtain ⟨e,hi⟩:=Bz r h1;subst e;obtain ⟨d,x,_,hb,I,_⟩:=qC C T;refine ⟨s2,T,hi s2 fun id y hy=> ?_⟩;rw [I];simp only [ax];rw [if_neg (fun e=>by rw [e,hb] at hy;cases hy)];exact hy
 ·
  obtain ⟨e,hi⟩:=qB r h1;obtain ⟨I,R⟩:=Bz C T;subst I;exact ⟨st,R st fun id x hx=>by rw [←e];exact hx,h1⟩
 ·
  obtain ⟨e,hi⟩:=qB r h1;obtain ⟨d,x,_,hb,I,R⟩:=qC C T;exact ⟨_,R st (by rw [←e];exact hb),(hi ⟨upd st.box d (some x),st.row⟩ rfl).trans (by rw [I,e])⟩
 ·
  obtain ⟨e,hi⟩:=qB r h1;obtain ⟨id,x,y,hb,I,R⟩:=I4 C T;exact ⟨_,R st (by rw [←e];exact hb),(hi ⟨upd st.box id (some x),st.row⟩ rfl).trans (by rw [I,e])⟩
 ·
  obtain ⟨d,x,_,hb,e,hi⟩:=qC r h1;obtain ⟨I,R⟩:=qB C T;refine ⟨_,R st (by rw [e]),(hi ⟨st.box,s2.row⟩ hb).trans ?_⟩;subst e;obtain ⟨b2,r2⟩:=s2;simp only at I;rw [I]
 ·
  obtain ⟨d,x,hdi,hb,e,hi⟩:=qC r h1;obtain ⟨d',x',hdj,J,I,R⟩:=qC C T;have U:d≠d' :=fun e' =>hd d hdi (by rw [hdj,e'])
  subst e;simp only [ax] at J;rw [if_neg (fun e' =>U e'.symm)] at J;refine ⟨_,R st J,(hi ⟨upd st.box d' (some x'),st.row⟩ (by simp only [ax];rw [if_neg U];exact hb)).trans ?_⟩;rw [I];simp only [BA st.box (some x) (some x') U]
 ·
  obtain ⟨id,x,y,hb,e,hi⟩:=I4 r h1;obtain ⟨I,R⟩:=qB C T;refine ⟨_,R st (by rw [e]),(hi ⟨st.box,s2.row⟩ hb).trans ?_⟩;subst e;obtain ⟨b2,r2⟩:=s2;simp only at I;rw [I]
 ·
  obtain ⟨id,x,y,hb,e,hi⟩:=I4 r h1;obtain ⟨d',x',hdj,J,I,R⟩:=qC C T
  have U:id≠d' :=fun e' =>by
   subst e;simp only [ax] at J;rw [if_pos e'.symm] at J;cases J
  subst e;simp only [ax] at J;rw [if_neg (fun e' =>U e'.symm)] at J;refine ⟨_,R st J,(hi ⟨upd st.box d' (some x'),st.row⟩ (by simp only [ax];rw [if_neg U];exact hb)).trans ?_⟩;rw [I];simp only [BA st.box (some x) (some x') U]
end
end
section
open Go.RowKit
section
variable {P:Program} {mu:List Nat}
theorem I5 {i:AI} {rs:Option RS} {fr f:Fr} {st s:St} {p:Prop} (h:aj P i rs fr st=some (f,s,p)) (g:i.cl≠ .hard): ∃v,f=va fr i.dst v:=by
 cases i<;>first|exact absurd rfl g|skip
 all_goals
  simp only [aj] at h
  (repeat' (split at h))<;>first
   |(cases h;exact ⟨some _,rfl⟩)
   |(cases h;exact ⟨none,rfl⟩)
   |(cases h;done)
   |skip
def D3 (x y:GI):Bool:=
 (match x.i.dst with
  |some d=> !(y.looks.contains d)&& !(FL y.i.dst (some d))
  |none=>true)&&
 (match y.i.dst with
  |some d=> !(x.looks.contains d)
  |none=>true)
def BB (x y:GI):Bool:=D3 x y&&D2 x.i.cl y.i.cl
theorem D4 (x:Option Nat):FL x x=true:=by
 cases x with
 |none=>rfl
 |some a=>exact Nat.beq_refl a
theorem BC {x y:GI} (h:D3 x y=true):(∀d,x.i.dst=some d→d∉y.looks)∧(∀d,x.i.dst=some d→y.i.dst≠some d)∧ ∀d,y.i.dst=some d→d∉x.looks:=by
 unfold D3 at h;rw [gA9] at h;refine ⟨fun d i=> ?_,fun d i e=> ?_,fun d i=> ?_⟩
 ·have g:=h.1
  rw [i] at g;simp only [gA9,Bool.not_eq_true'] at g;simpa using g.1
 ·have g:=h.1
  rw [i,e] at g;simp only [gA9,Bool.not_eq_true',D4] at g;cases g.2
 ·have g:=h.2
  rw [i] at g;simpa using g
theorem BD {x:GI} {rs:Option RS} {fr f:Fr} {st s:St} {p:Prop} (h:bj P x rs fr st=some (f,s,p)) (g:x.i.cl≠ .hard): ∃v,f=va fr x.i.dst v:=by
 unfold bj at h;split at h
 ·exact I5 h g
 ·split at h
  ·rename_i d i j
   split at h
   ·split at h
    ·split at h
     ·cases h
      exact ⟨some _,by rw [j];rfl⟩
     ·cases h
    ·cases h
   ·cases h
  ·split at h
   ·rename_i r;exact absurd r g
   ·cases h
 ·cases h
theorem vf (x:GI) (rs:Option RS) (fr:Fr) (st:St) (d:Option Nat) (v:Option AV) (hr: ∀e,d=some e→e∉x.looks) (g: ∀e,d=some e→x.i.dst≠some e) (i:x.i.cl≠ .hard):bj P x rs (va fr d v) st=(bj P x rs fr st).map fun r=>(va r.1 d v,r.2):=by
 cases d with
 |none=>
  cases h:bj P x rs fr st with
  |none=>simp only [va,h];rfl
  |some r=>simp only [va,h];rfl
 |some d=>exact I2 x rs fr st v (hr d rfl) (g d rfl) i
theorem K8 {x y:GI} (i:BB x y=true) {U R:Option RS} {fr f1 f2:Fr} {st T s2:St} {p q:Prop} (h1:bj P x U fr st=some (f1,T,p)) (I:bj P y R f1 T=some (f2,s2,q)):
  ∃J j,bj P y R fr st=some (J,j,q)∧bj P x U J j=some (f2,s2,p):=by
 unfold BB at i;rw [gA9] at i;obtain ⟨ha,C⟩:=i;obtain ⟨a1,a2,a3⟩:=BC ha;obtain ⟨vx,e1⟩:=BD h1 (im C).1;subst e1;rw [vf y R fr T x.i.dst vx a1 a2 (im C).2] at I;cases hy:bj P y R fr T with
 |none=>rw [hy] at I;cases I
 |some r=>
  obtain ⟨g,s2',q'⟩:=r;rw [hy] at I;simp only [Option.map_some,gB9,Prod.mk.injEq] at I;obtain ⟨e2,e3,e4⟩:=I;subst e2 e3 e4;obtain ⟨j,h3,h4⟩:=MM C a2 h1 hy;obtain ⟨vy,e5⟩:=BD hy (im C).2;subst e5;refine ⟨_,j,h3,?_⟩;rw [vf x U fr j y.i.dst vy a3 (fun e he e' =>a2 e e' he) (im C).1,h4];simp only [Option.map_some];rw [qx fr vx vy a2]
def D5 (P:Program) (g:Array Oper) (S:List (GI×Option RS)) (R:Fr→St→Prop):Nat→Array Bool→Fr→St→Prop
 |0,listed,fr,st=>Region.ready .any g listed= []∧R fr st
 |n+1,listed,fr,st=>(Region.ready .any g listed= []→R fr st)∧ ∀i∈Region.ready .any g listed,∃x rs fr' st' p,S[i]? =some (x,rs)∧bj P x rs fr st=some (fr',st',p)∧p∧D5 P g S R n (listed.setIfInBounds i true) fr' st'
def vg (g:Array Oper):Nat→Nat→Nat→Bool
 |0,_,_=>false
 |n+1,j,i=>match g[j]? with
  |some o=>o.after.any fun e=>Region.binds .any e&&(Nat.beq e.on i||vg g n e.on i)
  |none=>false
def ClosedL (g:Array Oper) (listed:Array Bool):Prop:= ∀j o,g[j]? =some o→listed.getD j false=true→ ∀e∈o.after,Region.binds .any e=true→listed.getD e.on false=true
theorem vh {g:Array Oper} {listed:Array Bool} {i:Nat} (P:ClosedL g listed) (hi:listed.getD i true=false): ∀(n j:Nat) o,g[j]? =some o→(∀e∈o.after,Region.binds .any e=true→listed.getD e.on false=true)→vg g n j i=false
 |0,_,_,_,_=>rfl
 |n+1,j,o,U,C=>by
  unfold vg;rw [U];simp only;cases R:(o.after.any fun e=>Region.binds .any e&&(Nat.beq e.on i||vg g n e.on i)) with
  |false=>rfl
  |true=>
   rw [Array.any_eq_true'] at R;obtain ⟨e,he,I⟩:=R;rw [gA9,Bool.or_eq_true] at I;have hl:=C e he I.1;rcases I.2 with p|p
   ·have:=Nat.eq_of_beq_eq_true p
    rw [this] at hl;rcases Nat.lt_or_ge i listed.size with J|J
    ·simp [J] at hi hl;rw [hi] at hl;cases hl
    ·simp [Array.getElem?_eq_none J] at hl
   ·cases r:g[e.on]? with
    |none=>
     cases n with
     |zero=>cases p
     |succ n=>unfold vg at p;rw [r] at p;cases p
    |some T=>
     rw [vh P hi n e.on T r (P e.on T r hl)] at p;cases p
theorem ClosedL.set {g:Array Oper} {listed:Array Bool} (P:ClosedL g listed) {j:Nat} (R:j∈Region.ready .any g listed):ClosedL g (listed.setIfInBounds j true):=by
 intro k o C I e J hb;obtain ⟨_,T,i,p⟩:=mem_ready.1 R;by_cases r:k=j
 ·subst r
  rw [C] at i;cases i;exact getD_set_true (p e J hb)
 ·rw [getD_set_ne false (Ne.symm r)] at I
  exact getD_set_true (P k o C I e J hb)
theorem vi {g:Array Oper} {S:List (GI×Option RS)} {R:Fr→St→Prop} {i:Nat} {U:GI} {ri:Option RS} (hi:S[i]? =some (U,ri)):
  ∀(fuel:Nat) (listed:Array Bool) (fr J:Fr) (st T:St) (p:Prop),ClosedL g listed→(∀j xj rj oj,S[j]? =some (xj,rj)→g[j]? =some oj→j≠i→listed.getD j true=false→vg g g.size j i=false→BB U xj=true)→
   i∈Region.ready .any g listed→bj P U ri fr st=some (J,T,p)→p→D5 P g S R fuel (listed.setIfInBounds i true) J T→D5 P g S R (fuel+1) listed fr st:=by
 intro fuel
 induction fuel with
 |zero=>
  intro listed fr J st T p _ _ hr hs hp H;refine ⟨fun h=>(by rw [h] at hr;cases hr),fun j hj=> ?_⟩;by_cases r:j=i
  ·subst r;exact ⟨U,ri,J,T,p,hi,hs,hp,H⟩
  ·have:=ready_mono hj r
   rw [H.1] at this;cases this
 |succ fuel ih=>
  intro listed fr J st T p hcl C hr hs hp H;refine ⟨fun h=>(by rw [h] at hr;cases hr),fun j hj=> ?_⟩;by_cases r:j=i
  ·subst r;exact ⟨U,ri,J,T,p,hi,hs,hp,H⟩
  ·obtain ⟨xj,rj,f2,s2,q,hSj,hsj,hq,h3⟩:=H.2 j (ready_mono hj r)
   obtain ⟨I,oj,hoj,hall⟩:=mem_ready.1 hj;have hnot:=vh hcl (mem_ready.1 hr).1 g.size j oj hoj hall;have hind:=C j xj rj oj hSj hoj r I hnot;obtain ⟨f1',s1',k1,k2⟩:=K8 hind hs hsj;refine ⟨xj,rj,f1',s1',q,hSj,k1,hq,ih (listed.setIfInBounds j true) f1' f2 s1' s2 p (hcl.set hj) (fun k xk rk ok hSk hok hki hun hno=> ?_) (ready_mono hr (Ne.symm r)) k2 hp ?_⟩
   ·refine C k xk rk ok hSk hok hki ?_ hno
    by_cases hjk:j=k
    ·subst hjk;exact I
    ·rw [getD_set_ne true hjk] at hun;exact hun
   ·rw [Array.setIfInBounds_comm _ _ r]
    exact h3
def Nz (g:Array Oper) (p:List GI) (listed:Array Bool) (i:Nat) (r:GI):Bool:=
 (List.range g.size).all fun j=>Nat.beq j i||listed.getD j true||(match g[j]?,p[j]? with
  |some C,some I=>(C.after.any fun e=>Region.binds .any e&&Nat.beq e.on i)||BB r I||vg g g.size j i
  |_,_=>false)
def GU (g:Array Oper) (i:List GI):Nat→Nat→Array Bool→Bool
 |0,_,listed=>(Region.ready .any g listed).isEmpty
 |n+1,k,listed=>(Region.ready .any g listed).contains k&&(match i[k]? with|some x=>Nz g i listed k x|none=>false)&&GU g i n (k+1) (listed.setIfInBounds k true)
theorem BE {g:Array Oper} {U:List GI} {S:List (GI×Option RS)} (hS:S.map (·.1)=U) {fr' :Fr} {st' :St} {R:Fr→St→Prop} (hR:R fr' st'):
  ∀(l:List (GI×Option RS)) (k:Nat) (listed:Array Bool) (fr:Fr) (st:St) (p:Prop),ClosedL g listed→(∀j:Nat,l[j]? =S[k+j]?)→GU g U l.length k listed=true→gD P l fr st=some (fr',st',p)→p→D5 P g S R l.length listed fr st
 | [],k,listed,fr,st,p,_,_,hB,r,_=>by
  cases r;exact ⟨by simpa [GU] using hB,hR⟩
 |(x,rs)::l,k,listed,fr,st,p,I,hl,hB,r,hp=>by
  have h0:S[k]? =some (x,rs):=by simpa using (hl 0).symm
  have hg:U[k]? =some x:=by rw [←hS,gA8,h0];rfl
  simp only [gA3,GU,gA9,hg] at hB;obtain ⟨⟨hr,hf⟩,hB'⟩:=hB;unfold gD at r;split at r
  ·rename_i f1 s1 p1 h1
   split at r
   ·rename_i f2 s2 q2 h2
    cases r;have J:k∈Region.ready .any g listed:=by simpa using hr
    refine vi h0 l.length listed fr f1 st s1 p1 I (fun j xj rj oj hSj C hji hun T=> ?_) J h1 hp.1 (BE hS hR l (k+1) _ f1 s1 q2 (I.set J) (fun j=>by
     have:=hl (j+1);simp only [List.getElem?_cons_succ] at this;rw [this,show k+(j+1)=k+1+j by omega]) hB' h2 hp.2)
    have hj:j<g.size:=(gC0 C).1;have i:=List.all_eq_true.1 hf j (by simpa using hj);have hgj:U[j]? =some xj:=by rw [←hS,gA8,hSj];rfl
    simp only [C,hgj,Bool.or_eq_true] at i;rcases i with (i|i)|(i|i)|i
    ·exact absurd (Nat.eq_of_beq_eq_true i) hji
    ·rw [hun] at i;cases i
    ·rw [Array.any_eq_true'] at i
     obtain ⟨e,he,h4⟩:=i;rw [gA9] at h4
     have:vg g g.size j k=true:=by
      cases hn:g.size with
      |zero=>omega
      |succ n=>
       unfold vg;rw [C];simp only;rw [Array.any_eq_true'];exact ⟨e,he,by rw [h4.1,h4.2];rfl⟩
     rw [T] at this;cases this
    ·exact i
    ·rw [T] at i;cases i
   ·cases r
  ·cases r
theorem fj {E:Env} {g:Array Oper} {C:List GI} {S:List (GI×Option RS)} (hS:S.map (·.1)=C) (j:At P mu g C) (hd:gE E.n C=true) {R:Fr→St→Prop} {Q:Exit→Act→World→Prop} (J: ∀fr st G a w,R fr st→Conc E G fr st a w→Q .normal a w):
  ∀(fuel:Nat) (listed:Array Bool) (fr:Fr) (st:St) (G:Gho) (a:Act) (w:World),Conc E G fr st a w→D5 P g S R fuel listed fr st→wpAny P .any g Q fuel listed a w
 |0,listed,fr,st,G,a,w,I,h=>⟨h.1,J _ _ _ _ _ h.2 I⟩
 |fuel+1,listed,fr,st,G,a,w,I,h=>by
  refine ⟨fun h0=>J _ _ _ _ _ (h.1 h0) I,fun i hi=> ?_⟩;obtain ⟨x,rs,fr',st',p,T,hs,hp,h3⟩:=h.2 i hi;have hg:C[i]? =some x:=by rw [←hS,gA8,T];rfl
  have U:i<g.size:=by
   rw [←j.1];exact (gA0 hg).1
  have ho:g[i]? =some g[i]:=Array.getElem?_eq_getElem U;unfold wpOp;simp only [ho];have r:=MJ (Q:=Q) (K:=wpAny P .any g Q fuel (listed.setIfInBounds i true)) I j ho hg hs hp (dy hd hg) (fun G' a' w' hc' =>fj hS j hd J fuel _ fr' st' G' a' w' hc' h3);split at r
  ·rename_i hw;rw [if_pos hw];exact .inl r
  ·rename_i hw;rw [if_neg hw];exact r
theorem GV {E:Env} {G:Gho} {fr fr' :Fr} {st st' :St} {a:Act} {w:World} {Q:Exit→Act→World→Prop} {g:Array Oper} {U:List GI} {draw:Bool} {id:Nat} {rs rs' :List RS} {p:Prop} (hm:P.follows .mixedOrders=true) (I:sh P mu g 0 g.toList=some U)
  (r:(!draw||GU g U g.size 0 (Array.replicate g.size false))=true) (hd:gE E.n U=true) (h:Conc E G fr st a w) (hs:iS P U rs fr st=some (rs',fr',st',p)) (hp:p) (hQ: ∀G a w,Conc E G fr' st' a w→Q .normal a w):(Code.region id g draw).wp P Q a w:=by
 obtain ⟨S,hS,q,J,T⟩:=bI hs;have C:=po I;have i:S.length=g.size:=by rw [←C.1,←hS,List.length_map]
 cases draw with
 |false=>
  refine wp_region ?_;have:=mw (Q:=Q) C hd hQ (l:=S) (k:=0) (fun j=>by rw [hS,Nat.zero_add]) (by rw [i,Nat.zero_add]) J (T hp) h;rw [i] at this
  rwa [List.range_eq_range']
 |true=>
  simp only [Bool.not_true,Bool.false_or] at r;refine wp_region_any hm ?_;have h2:=BE (R:=fun f s=>f=fr' ∧s=st') hS ⟨rfl,rfl⟩ S 0 (Array.replicate g.size false) fr st q (fun j o _ hj=>by simp [Array.getD_eq_getD_getElem?,Array.getElem?_replicate] at hj;split at hj<;>simp at hj) (fun j=>by rw [Nat.zero_add]) (by rw [i];exact r) J (T hp);rw [i] at h2;refine fj hS C hd (fun f s G' a' w' hR hc=>by obtain ⟨rfl,rfl⟩:=hR;exact hQ _ _ _ hc) _ _ fr st G a _ (h.same ?_) h2;exact (Below.refl w.heap.size w).drew
end
inductive ACode where
 |skip
 |reg (l:List GI)
 |regs (l:List GI)
 |rega (l:List GI) (ds:List (List Nat))
 |seq (a b:ACode)
 |cond (c:Opd) (t e:ACode)
 |block (id:Nat) (b:ACode)
 |loop (b:ACode)
 |exit (id:Nat)
 |ret
def cF (g:Array Oper):List (List Nat):=g.toList.map fun o=>(o.after.toList.filter fun e=>Region.binds .any e).map (·.on)
def I6 (ds:List (List Nat)) (listed:Array Bool) (j:Nat):Bool:=
 match ds[j]? with
 |some l=> !listed.getD j true&&l.all fun e=>listed.getD e false
 |none=>false
def rdy (ds:List (List Nat)) (listed:Array Bool):List Nat:=(List.range ds.length).filter (I6 ds listed)
theorem fW {g:Array Oper} {listed:Array Bool} {j:Nat}:j∈rdy (cF g) listed↔j∈Region.ready .any g listed:=by
 rw [mem_ready,rdy,List.mem_filter,List.mem_range]
 have e:(cF g)[j]? =(g[j]?).map fun o=>(o.after.toList.filter fun e=>Region.binds .any e).map (·.on):=by
  rw [cF,gA8,Array.getElem?_toList]
 have hl:(cF g).length=g.size:=by simp [cF]
 unfold I6;rw [e,hl];cases C:g[j]? with
 |none=>simp
 |some o=>
  have I:=(gC0 C).1;simp only [Option.map_some,gA9,Bool.not_eq_true',List.all_eq_true,List.mem_map,List.mem_filter,Array.mem_toList_iff,gB9];constructor
  ·rintro ⟨_,i,p⟩
   exact ⟨i,o,rfl,fun e r hb=>p _ ⟨e,⟨r,hb⟩,rfl⟩⟩
  ·rintro ⟨i,P,rfl,p⟩
   exact ⟨I,i,fun x ⟨e,⟨r,hb⟩,J⟩=>J▸p e r hb⟩
def K9 (f:Nat→Prop):List Nat→Prop
 | []=>True
 |i::l=>f i∧K9 f l
theorem vj {f:Nat→Prop}: ∀{l:List Nat},K9 f l→ ∀i∈l,f i
 |x::l,h,i,hi=>by
  rcases gB2 hi with rfl|hi
  ·exact h.1
  ·exact vj h.2 i hi
def I7 (P:Program) (ds:List (List Nat)) (S:List (GI×Option RS)) (R:Fr→St→Prop):Nat→Array Bool→Fr→St→Prop
 |0,listed,fr,st=>match rdy ds listed with
  | []=>R fr st
  |_=>False
 |n+1,listed,fr,st=>match rdy ds listed with
  | []=>R fr st
  |l=>K9 (fun i=>match S[i]? with
   |none=>False
   |some (x,rs)=>match bj P x rs fr st with
    |none=>False
    |some (fr',st',p)=>p∧I7 P ds S R n (listed.setIfInBounds i true) fr' st') l
theorem pq {P:Program} {r:Array Oper} {S:List (GI×Option RS)} {R:Fr→St→Prop}: ∀(n:Nat) (listed:Array Bool) (fr:Fr) (st:St),I7 P (cF r) S R n listed fr st→D5 P r S R n listed fr st
 |0,listed,fr,st,h=>by
  unfold I7 at h;split at h
  ·rename_i C
   refine ⟨List.eq_nil_iff_forall_not_mem.2 fun j g=> ?_,h⟩;have:=fW.2 g;rw [C] at this;cases this
  ·exact h.elim
 |n+1,listed,fr,st,h=>by
  unfold I7 at h;split at h
  ·rename_i C
   refine ⟨fun _=>h,fun j g=> ?_⟩;have:=fW.2 g;rw [C] at this;cases this
  ·rename_i I
   refine ⟨fun J=> ?_,fun j g=> ?_⟩
   ·exfalso
    refine I (List.eq_nil_iff_forall_not_mem.2 fun j g=> ?_);have:=fW.1 g;rw [J] at this;cases this
   ·have i:=vj h j (fW.2 g)
    split at i
    ·exact i.elim
    ·rename_i x rs T
     split at i
     ·exact i.elim
     ·rename_i fr' st' p hg
      exact ⟨x,rs,fr',st',p,T,hg,i.1,pq n _ fr' st' i.2⟩
def mkS:List GI→List RS→List (GI×Option RS)
 | [],_=> []
 |x::l,rs=>match x.i.wantsRS,rs with
  |true,r::rs=>(x,some r)::mkS l rs
  |_,rs=>(x,none)::mkS l rs
theorem zM: ∀(l:List GI) (rs:List RS),(mkS l rs).map (·.1)=l
 | [],_=>rfl
 |x::l,rs=>by
  unfold mkS;split<;>rw [List.map_cons,zM l]
def GI.iter (x:GI):Bool:=match x.i with
 | .rng .. | .nxt .. | .ent .. =>true
 |_=>false
def noIter (l:List GI):Bool:=l.all fun x=> !x.iter
theorem MP {draw:Bool} {b c:Bool} (h:(!draw||(b&&c))=true):(!draw||b)=true:=by cases draw<;>cases b<;>simp_all
def ah (P:Program) (mu:List Nat):Code→Option ACode
 | .skip=>some .skip
 | .region id g draw=>match sh P mu g 0 g.toList with
  |some l=>match !draw||(GU g l g.size 0 (Array.replicate g.size false)&&noIter l) with
   |true=>match bO (id+5000000) mu&& !draw with
    |true=>some (.regs l)
    |false=>some (.reg l)
   |false=>match draw with
    |true=>some (.rega l (cF g))
    |false=>none
  |none=>none
 | .seq a b=>match ah P mu a,ah P mu b with
  |some a,some b=>some (.seq a b)
  |_,_=>none
 | .cond c t e=>match be P 0 c,ah P mu t,ah P mu e with
  |some c,some t,some e=>some (.cond c t e)
  |_,_,_=>none
 | .block id b=>match ah P mu b with
  |some b=>some (.block id b)
  |none=>none
 | .loop b=>match ah P mu b with
  |some b=>some (.loop b)
  |none=>none
 | .exit id=>some (.exit id)
 | .ret=>some .ret
 |_=>none
inductive ARes where
 |tmp (t:Nat)
 |cell (t n:Nat) (agg:Bool)
structure AFn where
 np:Nat
 n:Nat
 body:ACode
 res:List ARes
def nL (P:Program):List ResultVar→Option (List ARes)
 | []=>some []
 | .tmp t::l=>match nL P l with
  |some r=>some (.tmp t::r)
  |none=>none
 | .cell a t::l=>match P.info? t,nL P l with
  |some i,some r=>if (P.underlying t).isSome then some (.cell a i.size (lE P t)::r) else none
  |_,_=>none
def eB (n:Nat):ACode→Bool
 | .reg l=>gE n l
 | .regs l=>gE n l
 | .rega l _=>gE n l
 | .seq a b=>eB n a&&eB n b
 | .cond _ a b=>eB n a&&eB n b
 | .block _ b=>eB n b
 | .loop b=>eB n b
 |_=>true
def aq (P:Program) (mu:List Nat) (f:Func):Option AFn:=
 match f.body with
 |some c=>match ah P mu c,nL P f.results.toList with
  |some b,some r=>if eB f.ntmps b&&Nat.ble f.params.size f.ntmps&&Nat.ble f.ntmps 800000 then some ⟨f.params.size,f.ntmps,b,r⟩ else none
  |_,_=>none
 |none=>none
end
section
open Go.RowKit
def AWp (P:Program) (E:Env) (g:ACode) (Q:Exit→Fr→St→Prop) (fr:Fr) (st:St):Prop:=
 ∀(mu:List Nat) (c:Code) G a w,ah P mu c=some g→eB E.n g=true→Conc E G fr st a w→c.wp P (fun e i w' => ∃G' fr' st',Conc E G' fr' st' i w' ∧Q e fr' st') a w
inductive AItem where
 |c (a:ACode)
 |blk (id:Nat)
 |lp (I:Fr→St→Prop)
def mkQ (Q:Exit→Fr→St→Prop) (n:Fr→St→Prop) (x:Nat→Fr→St→Prop):Exit→Fr→St→Prop
 | .normal=>n
 | .exit id=>x id
 |e=>Q e
def KS (P:Program) (E:Env) (Q:Exit→Fr→St→Prop):List AItem→(Fr→St→Prop)×(Nat→Fr→St→Prop)
 | []=>(Q .normal,fun id=>Q (.exit id))
 | .c a::k=>(fun fr st=>eB E.n a=true→AWp P E a (mkQ Q (KS P E Q k).1 (KS P E Q k).2) fr st,(KS P E Q k).2)
 | .blk id::k=>((KS P E Q k).1,fun id' =>if Nat.beq id id' then (KS P E Q k).1 else (KS P E Q k).2 id')
 | .lp I::k=>(I,(KS P E Q k).2)
def AK (P:Program) (E:Env) (Q:Exit→Fr→St→Prop) (k:List AItem) (fr:Fr) (st:St):Prop:=(KS P E Q k).1 fr st
def yG (id:Nat):List AItem→Option (List AItem)
 | []=>none
 | .c _::k=>yG id k
 | .blk id' ::k=>match Nat.beq id' id with
  |true=>some k
  |false=>yG id k
 | .lp _::k=>yG id k
section
variable {P:Program} {E:Env} {Q:Exit→Fr→St→Prop} {k:List AItem} {fr fr' :Fr} {st st' :St}
theorem AK.seq {a b:ACode} (h:AK P E Q (.c a:: .c b::k) fr st):AK P E Q (.c (.seq a b)::k) fr st:=by
 intro p mu c G C w g _ I;simp only [eB,gA9] at p;cases c with
 |seq x y=>
  simp only [ah] at g;split at g
  ·rename_i r T J hy
   cases g;refine wp_seq (wp_mono (h p.1 mu x G C w J p.1 I) fun e r w' ⟨G',f,s,i,j⟩=> ?_);cases e with
   |normal=>exact j p.2 mu y G' r w' hy p.2 i
   |exit id=>exact ⟨G',f,s,i,j⟩
   |goto l=>exact ⟨G',f,s,i,j⟩
   |ret=>exact ⟨G',f,s,i,j⟩
   |panic U=>exact ⟨G',f,s,i,j⟩
   |outgrown=>exact ⟨G',f,s,i,j⟩
  ·cases g
 |region id R dr=>simp only [ah] at g;split at g; ·(repeat' (split at g))<;>cases g
                  ·cases g
 |cond x t e=>simp only [ah] at g;split at g<;>cases g
 |block id b=>simp only [ah] at g;split at g<;>cases g
 |loop b=>simp only [ah] at g;split at g<;>cases g
 |_=>cases g
theorem AK.block {id:Nat} {b:ACode} (h:AK P E Q (.c b:: .blk id::k) fr st):AK P E Q (.c (.block id b)::k) fr st:=by
 intro r mu c G C w g _ I;cases c with
 |block id' x=>
  simp only [ah] at g;split at g
  ·rename_i T J
   cases g;refine wp_block (wp_mono (h r mu x G C w J r I) fun e U w' ⟨G',f,s,j,p⟩=> ?_);cases e with
   |normal=>exact ⟨G',f,s,j,p⟩
   |exit i=>
    simp only [Exit.inBlock];simp only [mkQ,KS] at p;by_cases hi:i=id
    ·subst hi
     rw [if_pos rfl];rw [if_pos (Nat.beq_refl i)] at p;exact ⟨G',f,s,j,p⟩
    ·rw [if_neg hi]
     rw [if_neg (by rw [uv (fun e=>hi e.symm)];simp)] at p;exact ⟨G',f,s,j,p⟩
   |goto l=>exact ⟨G',f,s,j,p⟩
   |ret=>exact ⟨G',f,s,j,p⟩
   |panic ch=>exact ⟨G',f,s,j,p⟩
   |outgrown=>exact ⟨G',f,s,j,p⟩
  ·cases g
 |region id R dr=>simp only [ah] at g;split at g; ·(repeat' (split at g))<;>cases g
                  ·cases g
 |cond x t e=>simp only [ah] at g;split at g<;>cases g
 |seq x y=>simp only [ah] at g;split at g<;>cases g
 |loop b=>simp only [ah] at g;split at g<;>cases g
 |_=>cases g
theorem AK.blk {id:Nat} (h:AK P E Q k fr st):AK P E Q (.blk id::k) fr st:=h
theorem AK.lp {I:Fr→St→Prop} (h:I fr st):AK P E Q (.lp I::k) fr st:=h
theorem jQ {id:Nat}: ∀{k k' :List AItem},yG id k=some k' →AK P E Q k' fr st→(KS P E Q k).2 id fr st
 | [],k',h,_=>by cases h
 | .c a::k,k',h,g=>jQ (k:=k) h g
 | .lp I::k,k',h,g=>jQ (k:=k) h g
 | .blk id' ::k,k',h,g=>by
  simp only [yG] at h;simp only [KS];split at h
  ·rename_i hb
   cases h;rw [if_pos hb];exact g
  ·rename_i hb
   rw [if_neg (by rw [hb];simp)];exact jQ (k:=k) h g
theorem AK.exit {id:Nat} {k' :List AItem} (i:yG id k=some k') (h:AK P E Q k' fr st):AK P E Q (.c (.exit id)::k) fr st:=by
 intro r mu c G C w g _ j;cases c with
 |exit id' =>
  cases g;exact wp_exit ⟨G,fr,st,j,jQ i h⟩
 |region id p I=>simp only [ah] at g;split at g; ·(repeat' (split at g))<;>cases g
                 ·cases g
 |cond x t e=>simp only [ah] at g;split at g<;>cases g
 |seq x y=>simp only [ah] at g;split at g<;>cases g
 |block id b=>simp only [ah] at g;split at g<;>cases g
 |loop b=>simp only [ah] at g;split at g<;>cases g
 |_=>cases g
theorem aR (h:Q .ret fr st):AK P E Q (.c .ret::k) fr st:=by
 intro p mu c G r w g _ i;cases c with
 |ret=>exact wp_ret ⟨G,fr,st,i,h⟩
 |region id j C=>simp only [ah] at g;split at g; ·(repeat' (split at g))<;>cases g
                 ·cases g
 |cond x t e=>simp only [ah] at g;split at g<;>cases g
 |seq x y=>simp only [ah] at g;split at g<;>cases g
 |block id b=>simp only [ah] at g;split at g<;>cases g
 |loop b=>simp only [ah] at g;split at g<;>cases g
 |_=>cases g
theorem AK.skip (h:AK P E Q k fr st):AK P E Q (.c .skip::k) fr st:=by
 intro p mu c G r w g _ i;cases c with
 |skip=>exact wp_skip ⟨G,fr,st,i,h⟩
 |region id j C=>simp only [ah] at g;split at g; ·(repeat' (split at g))<;>cases g
                 ·cases g
 |cond x t e=>simp only [ah] at g;split at g<;>cases g
 |seq x y=>simp only [ah] at g;split at g<;>cases g
 |block id b=>simp only [ah] at g;split at g<;>cases g
 |loop b=>simp only [ah] at g;split at g<;>cases g
 |_=>cases g
theorem AK.cond {c:Opd} {t e:ACode} {b:Bool} (hb:c.ev fr=some (.bool b)) (ht:b=true→AK P E Q (.c t::k) fr st) (r:b=false→AK P E Q (.c e::k) fr st):AK P E Q (.c (.cond c t e)::k) fr st:=by
 intro i mu C G p w g _ j;simp only [eB,gA9] at i;cases C with
 |cond x y z=>
  simp only [ah] at g;split at g
  ·rename_i x' U z' I hy J
   cases g;have R:=(j.ev I hb).bool;exact wp_cond_split R (fun e=>ht e i.1 mu y G p w hy i.1 j) (fun e=>r e i.2 mu z G p w J i.2 j)
  ·cases g
 |region id T dr=>simp only [ah] at g;split at g; ·(repeat' (split at g))<;>cases g
                  ·cases g
 |seq x y=>simp only [ah] at g;split at g<;>cases g
 |block id b=>simp only [ah] at g;split at g<;>cases g
 |loop b=>simp only [ah] at g;split at g<;>cases g
 |_=>cases g
theorem AK.reg (C:P.follows .mixedOrders=true) {l:List GI} {rs j:List RS} {p:Prop} (I:iS P l rs fr st=some (j,fr',st',p)) (J:p) (h:AK P E Q k fr' st'):AK P E Q (.c (.reg l)::k) fr st:=by
 intro R mu c G ac w g _ T;cases c with
 |region id U dr=>
  simp only [ah] at g;split at g
  ·rename_i l' hl
   split at g
   ·rename_i i
    split at g
    ·cases g
    cases g;exact GV C hl (MP i) R T I J fun G' a' w' r=>⟨G',fr',st',r,h⟩
   ·split at g<;>cases g
  ·cases g
 |cond x t e=>simp only [ah] at g;split at g<;>cases g
 |seq x y=>simp only [ah] at g;split at g<;>cases g
 |block id b=>simp only [ah] at g;split at g<;>cases g
 |loop b=>simp only [ah] at g;split at g<;>cases g
 |_=>cases g
def Weak (fr:Fr) (st:St) (fr' :Fr) (st' :St):Prop:= ∀(E:Env) (G:Gho) (a:Act) (w:World),Conc E G fr st a w→ ∃G',Conc E G' fr' st' a w
theorem AK.rega (r:P.follows .mixedOrders=true) {l:List GI} {ds:List (List Nat)} (rs:List RS) (j:Fr) (s0:St) (hA:I7 P ds (mkS l rs) (fun f s=>Weak f s j s0) ds.length (Array.replicate ds.length false) fr st) (h:AK P E Q k j s0):AK P E Q (.c (.rega l ds)::k) fr st:=by
 intro C mu c G I w g _ J;cases c with
 |region id i dr=>
  simp only [ah] at g;split at g
  ·rename_i l' hl
   split at g
   ·split at g<;>cases g
   ·split at g
    ·cases g
     refine wp_region_any r ?_;have R:(cF i).length=i.size:=by simp [cF]
     rw [R] at hA;refine fj (zM _ _) (po hl) C (fun f s G' T w' U g=> ?_) _ _ fr st G I _ (J.same ?_) (pq _ _ _ _ hA)
     ·obtain ⟨G2,p⟩:=U E G' T w' g
      exact ⟨G2,j,s0,p,h⟩
     ·exact (Below.refl w.heap.size w).drew
    ·cases g
  ·cases g
 |cond x t e=>simp only [ah] at g;split at g<;>cases g
 |seq x y=>simp only [ah] at g;split at g<;>cases g
 |block id b=>simp only [ah] at g;split at g<;>cases g
 |loop b=>simp only [ah] at g;split at g<;>cases g
 |_=>cases g
theorem AK.weak {a:ACode} (p:Weak fr st fr' st') (h:AK P E Q (.c a::k) fr' st'):AK P E Q (.c a::k) fr st:=by
 intro r mu c G j w C g I;obtain ⟨G',i⟩:=p E G j w I;exact h r mu c G' j w C g i
theorem Mf {S:Nat→Prop} (h: ∃n,S n): ∃n,S n∧ ∀m,S m→n≤m:=by
 obtain ⟨n,hn⟩:=h
 induction n using Nat.strongRecOn with
 |_ n ih=>
  by_cases j: ∃m,m<n∧S m
  ·obtain ⟨m,g,p⟩:=j
   exact ih m g p
  ·exact ⟨n,hn,fun m g=>Nat.le_of_not_lt fun i=>j ⟨m,i,g⟩⟩
open Classical in
noncomputable def zN (S:Nat→Prop):Nat:=if h: ∃n,S n then Classical.choose (Mf h) else 0
theorem sm {S:Nat→Prop} {n:Nat} (h:S n):S (zN S)∧ ∀m,S m→zN S≤m:=by
 have g: ∃n,S n:=⟨n,h⟩
 unfold zN;rw [dif_pos g];exact Classical.choose_spec (Mf g)
theorem AK.loop {ι:Type} (J:ι→Fr×St) (μ:ι→Nat) {b:ACode} (i0:ι) (h0:Weak fr st (J i0).1 (J i0).2) (h: ∀i,AK P E Q (.c b:: .lp (fun fr st=> ∃R,Weak fr st (J R).1 (J R).2∧μ R<μ i)::k) (J i).1 (J i).2):AK P E Q (.c (.loop b)::k) fr st:=by
 intro hd mu c G ac w g _ hC;have I:eB E.n b=true:=hd;cases c with
 |loop x=>
  simp only [ah] at g;split at g
  ·rename_i b' hx
   cases g;obtain ⟨G',T⟩:=h0 E G ac w hC;refine wp_loop (fun a w=> ∃i G,Conc E G (J i).1 (J i).2 a w) (fun a w=>zN fun m=> ∃i G,Conc E G (J i).1 (J i).2 a w∧μ i=m) ⟨i0,G',T⟩ ?_;intro a1 w1 ⟨i1,G1,U⟩;obtain ⟨⟨i2,G2,hC2,hμ⟩,hmin⟩:=sm (S:=fun m=> ∃i G,Conc E G (J i).1 (J i).2 a1 w1∧μ i=m) ⟨i1,G1,U,rfl⟩;refine wp_mono (h i2 I mu x G2 a1 w1 hx I hC2) fun e a2 w2 ⟨r,f,s,j,C⟩=> ?_
   cases e with
   |normal=>
    obtain ⟨i3,hw,hlt⟩:=C;obtain ⟨G4,p⟩:=hw E r a2 w2 j;refine ⟨⟨i3,G4,p⟩,?_⟩;have:=(sm (S:=fun m=> ∃i G,Conc E G (J i).1 (J i).2 a2 w2∧μ i=m) ⟨i3,G4,p,rfl⟩).2 _ ⟨i3,G4,p,rfl⟩;rw [←hμ];omega
   |exit id=>exact ⟨r,f,s,j,C⟩
   |goto l=>exact ⟨r,f,s,j,C⟩
   |ret=>exact ⟨r,f,s,j,C⟩
   |panic ch=>exact ⟨r,f,s,j,C⟩
   |outgrown=>exact ⟨r,f,s,j,C⟩
  ·cases g
 |region id ops dr=>simp only [ah] at g;split at g; ·(repeat' (split at g))<;>cases g
                    ·cases g
 |cond x t e=>simp only [ah] at g;split at g<;>cases g
 |seq x y=>simp only [ah] at g;split at g<;>cases g
 |block id b=>simp only [ah] at g;split at g<;>cases g
 |_=>cases g
theorem aJ {ι:Type} (J:ι→Fr×St) (I:ι→Prop) (μ:ι→Nat) {b:ACode} (i0:ι) (r:I i0) (C:Weak fr st (J i0).1 (J i0).2)
  (h: ∀i,I i→AK P E Q (.c b:: .lp (fun fr st=> ∃g,I g∧Weak fr st (J g).1 (J g).2∧μ g<μ i)::k) (J i).1 (J i).2):AK P E Q (.c (.loop b)::k) fr st:=by
 refine AK.loop (ι:={i // I i}) (fun i=>J i.1) (fun i=>μ i.1) ⟨i0,r⟩ C fun i=> ?_
 have j:=h i.1 i.2
 have e:(fun fr st=> ∃g:{i // I i},Weak fr st (J g.1).1 (J g.1).2∧μ g.1<μ i.1)=fun fr st=> ∃g,I g∧Weak fr st (J g).1 (J g).2∧μ g<μ i.1:=by
  funext f s;exact propext ⟨fun ⟨g,p,j⟩=>⟨g.1,g.2,p,j⟩,fun ⟨g,hi,p,j⟩=>⟨⟨g,hi⟩,p,j⟩⟩
 rw [e];exact j
end
end
section
open Go.RowKit
def AV.isOne:AV→Bool
 | .int _ _| .bool _| .str _| .raw _| .np _ _| .lst _ _ _=>true
 |_=>false
inductive AVle1 (st:St):AV→AV→Prop where
 |refl (a:AV):AVle1 st a a
 |any (t:Tag) (esz:Nat) (l:List (List AV)):AVle1 st (.lst t esz l) (.lst .any esz l)
 |own (s v esz:Nat) (l:List (List AV)):AVle1 st (.lst .nil esz l) (.lst (.own s v) esz l)
 |frz (id esz cap:Nat) (rows:List (List AV)) (sp:List AV) (hb:st.box id=some (rows.flatten++sp,true)) (hro:RowsOk esz rows) (hmp:cC id=false:=by rfl):AVle1 st (.sli id esz rows.length cap) (.lst .any esz rows)
 |top (a:AV) (h:a.unown= .top):AVle1 st a .top
 |gone (a:AV) (h:a.isOne=true):AVle1 st a .top
def leL (st:St):List AV→List AV→Prop
 | [],[]=>True
 |a::as,b::g=>AVle1 st a b∧leL st as g
 |_,_=>False
inductive AVle (st:St):AV→AV→Prop where
 |one {a b:AV} (h:AVle1 st a b):AVle st a b
 |agg {cs ds:List AV} (h:leL st cs ds):AVle st (.agg cs) (.agg ds)
 |ptop (id off:Nat):AVle st (.ptr id off) .top
theorem AVle.refl {st:St} (a:AV):AVle st a a:= .one (.refl a)
theorem AVle.of_eq {st:St} {a b:AV} (h:a=b):AVle st a b:=h▸ .refl a
theorem iY {st:St}: ∀cs:List AV,leL st cs cs
 | []=>trivial
 |a::cs=>⟨.refl a,iY cs⟩
theorem aJz {st:St} {cs ds:List AV} (h:cs=ds):leL st cs ds:=h▸iY cs
theorem I8 {st:St}: ∀{cs ds:List AV},leL st cs ds→cs.length=ds.length∧ ∀(j:Nat) b,ds[j]? =some b→ ∃a,cs[j]? =some a∧AVle1 st a b
 | [],[],_=>⟨rfl,fun j b h=>by simp at h⟩
 |a::cs,b::ds,h=>by
  obtain ⟨i,p⟩:=I8 h.2;refine ⟨by simp [i],fun j c g=> ?_⟩;cases j with
  |zero=>simp at g;subst g;exact ⟨a,rfl,h.1⟩
  |succ j=>simpa using p j c (by simpa using g)
 | [],_::_,h=>h.elim
 |_::_,[],h=>h.elim
section
variable {P:Program} {mu:List Nat} {E:Env} {G G' :Gho} {fr fr' :Fr} {st st' :St} {a:Act} {w:World}
structure Gho.less (G G' :Gho):Prop where
 σ:G.σ=G'.σ
 ρ:G.ρ=G'.ρ
 B: ∀id g,G'.B id=some g→G.B id=some g
def AV.noFrs:AV→Bool
 | .frs _ _ _=>false
 |_=>true
theorem TagOk.less (h:G.less G') {v:Value} {a:AV} (hn:a.noFrs=true) (ht:TagOk G v a):TagOk G' v a:=by
 unfold TagOk at ht⊢;split at ht
 ·rw [←h.ρ];exact ht
 ·obtain ⟨i,j,g,p,r⟩:=ht
  exact ⟨i,j,g,p,fun g' hg=>r g' (h.B _ _ hg)⟩
 ·cases hn
 ·obtain ⟨i,g,p,r⟩:=ht
  exact ⟨i,g,p,fun g' hg=>r g' (h.B _ _ hg)⟩
 ·trivial
def AV.noFrsT:AV→Bool
 | .agg cs=>cs.all AV.noFrs
 |a=>a.noFrs
theorem RelT.less (h:G.less G') {v:Value} {a:AV} (hn:a.noFrsT=true) (ht:RelT G v a):RelT G' v a:=by
 cases a with
 |agg cs=>
  obtain ⟨vs,e,p,C⟩:=ht;exact ⟨vs,e,by rw [←h.σ];exact p,fun j u x I g=>(C j u x I g).less h (List.all_eq_true.1 hn x (gA2 g))⟩
 |frs k e r=>cases hn
 |np i o=>exact ⟨by rw [←h.σ];exact ht.1,ht.2.less h rfl⟩
 |sli i e n c=>exact ⟨by rw [←h.σ];exact ht.1,ht.2.less h rfl⟩
 |lst t e l=>exact ⟨by rw [←h.σ];exact ht.1,ht.2.less h rfl⟩
 |_=>exact RelT.of (by rw [←h.σ];exact RelT.plain ht rfl)
theorem FT (hC:Conc E G fr st a w) (J:G.less G') {v:Value} {x y:AV} (h:Rel1 G.σ v x.unown∧TagOk G v x) (hn:y.noFrs=true) (r:AVle1 st x y):Rel1 G'.σ v y.unown∧TagOk G' v y:=by
 rw [←J.σ];cases r with
 |refl=>exact ⟨h.1,h.2.less J hn⟩
 |any t esz l=>
  have:=h.1.plain;rw [cD] at this;exact ⟨this,trivial⟩
 |own s ver esz l=>
  have hs:RelS G v (.lst .nil esz l):=h;obtain ⟨A,cap,b,o,f,q1,_,_,_,_,_,_,q8,_⟩:=cN hs;have P:=q8 rfl;have:=h.1.plain;rw [cD] at this;exact ⟨this,.inl ⟨P.2.1,A,by rw [q1,P.2.1,P.2.2],fun _=>P.1⟩⟩
 |gone a ht=>exact ⟨.top _ h.1.one,trivial⟩
 |top a ht=>exact ⟨(show Rel1 G.σ v .top by have:=h.1;rw [ht] at this;exact this),trivial⟩
 |frz id esz cap rows sp hb hro hmp=>
  refine ⟨?_,trivial⟩;obtain ⟨h0,C,g0,hv,R⟩:=h.2;obtain ⟨g,hB,hge,ty,vs,hg,hr,_,T⟩:=hC.box id _ true hb;replace hg:=hg.cells hmp;rw [←R g hB] at hv;subst hv;obtain ⟨U,hnt⟩:=hro.flat
  have hvl:vs.size=(rows.flatten++sp).length:=by
   have p:vs.toList.length=((rows.flatten++sp).map AV.unown).length:=hr.1;rw [List.length_map] at p;simpa using p
  have r:rows.length*esz≤vs.size:=by rw [hvl,gA5,U];omega
  refine .lst .any esz rows _ _ cap g 0 (fun i j=>vs.getD (i*esz+j) undef) rfl C (fun _=>rfl) (fun i c hc=>(hro.2 c (gA2 hc)).1) (fun i j hi hj=> ?_) (fun i j c x hc J=> ?_) trivial
  ·have I:i*esz+j<vs.size:=by
    have p:(i+1)*esz≤rows.length*esz:=Nat.mul_le_mul_right _ (by omega);rw [gC3] at p;omega
   have h2:vs[i*esz+j]? =some vs[i*esz+j]:=Array.getElem?_eq_getElem I;rw [Nat.zero_add,T _ _ h2,Array.getD,dif_pos I];rfl
  ·have p:=hro.at_ hc J
   have h2:((rows.flatten++sp).map AV.unown)[i*esz+j]? =some x:=by
    rw [List.map_append,hnt,gC1 (gA0 p).1];exact p
   obtain ⟨v,hv1,hv2⟩:=hr.at_ h2;have:vs[i*esz+j]? =some v:=by simpa using hv1
   simp only [Array.getD_eq_getD_getElem?,this];exact hv2
theorem pr (I:Conc E G fr st a w) (J:G.less G') {vs:List Value} {cs ds:List AV} (h:RelL G.σ vs (cs.map AV.unown)) (ht:TagsOk G vs cs) (hn: ∀d∈ds,d.noFrs=true) (i:leL st cs ds):RelL G'.σ vs (ds.map AV.unown)∧TagsOk G' vs ds:=by
 obtain ⟨R,P⟩:=I8 i
 have key: ∀(j:Nat) v b,vs[j]? =some v→ds[j]? =some b→Rel1 G'.σ v b.unown∧TagOk G' v b:=by
  intro j v b g hb;obtain ⟨a,C,p⟩:=P j b hb;exact FT I J ⟨h.2 j v _ g (by rw [gA8,C];rfl),ht j v a g C⟩ (hn b (gA2 hb)) p
 refine ⟨⟨by have:=h.1;simp at this⊢;omega,fun j v b g hb=> ?_⟩,fun j v b g hb=>(key j v b g hb).2⟩;rw [gA8] at hb;cases r:ds[j]? with
 |none=>rw [r] at hb;cases hb
 |some d=>rw [r] at hb;cases hb;exact (key j v d g r).1
def AV.keeps:AV→Bool
 | .agg cs=>cs.all AV.noFrs
 | .tup cs=>cs.all AV.noFrsT
 | .frs _ _ _=>false
 | .pel _ _ _ _ _=>false
 | .when _ _=>false
 |_=>true
theorem RelS.le (J:Conc E G fr st a w) (I:G.less G') {v:Value} {x y:AV} (h:RelS G v x) (C:y.keeps=true) (hB: ∀id off g,y= .ptr id off→G.B id=some g→G'.B id=some g) (P:AVle st x y):RelS G' v y:=by
 cases P with
 |agg hl=>
  obtain ⟨vs,e,p,r⟩:=h;obtain ⟨R,T⟩:=pr J I p r (fun d U=>List.all_eq_true.1 C d U) hl;exact ⟨vs,e,R,T⟩
 |ptop id off=>
  obtain ⟨g,_,e,_⟩:=h;rw [e];exact ⟨.top _ rfl,trivial⟩
 |one p=>
  have one: ∀y:AV,y.noFrs=true→AVle1 st x y→(Rel1 G.σ v x.unown∧TagOk G v x)→Rel1 G'.σ v y.unown∧TagOk G' v y:=fun y hn p h=>FT J I h hn p
  cases p with
  |any t esz l=>exact one _ rfl (.any t esz l) h
  |own s ver esz l=>exact one _ rfl (.own s ver esz l) h
  |frz id esz cap rows sp hb hro hmp=>exact one _ rfl (.frz id esz cap rows sp hb hro hmp) h
  |top _ ht=>cases x<;>first|(cases ht;done)|exact one _ rfl (.top _ ht) h
  |gone _ ht=>cases x<;>first|(cases ht;done)|exact one _ rfl (.gone _ rfl) h
  |refl=>
   cases x with
   |agg cs=>
    obtain ⟨vs,e,p,r⟩:=h;obtain ⟨R,T⟩:=pr J I p r (fun d U=>List.all_eq_true.1 C d U) (iY cs);exact ⟨vs,e,R,T⟩
   |tup l=>
    obtain ⟨vs,e,p,r⟩:=h;exact ⟨vs,e,p,fun j u y hu hy=>(r j u y hu hy).less I (List.all_eq_true.1 C y (gA2 hy))⟩
   |ptr id off=>
    obtain ⟨g,p,r⟩:=h;exact ⟨g,hB id off g rfl p,r⟩
   |when c x=>cases C
   |frs k esz rows=>cases C
   |pel id esz i k c=>cases C
   |int k n=>exact one _ rfl (.refl _) h
   |bool b=>exact one _ rfl (.refl _) h
   |str b=>exact one _ rfl (.refl _) h
   |lst t esz l=>exact one _ rfl (.refl _) h
   |ro cs=>exact one _ rfl (.refl _) h
   |fn f cap=>exact one _ rfl (.refl _) h
   |raw v=>exact one _ rfl (.refl _) h
   |top=>exact one _ rfl (.refl _) h
   |sli id esz n cap=>exact one _ rfl (.refl _) h
   |np id off=>exact one _ rfl (.refl _) h
end
def ar:List (Nat×AV)→Fr
 | []=>fun _=>none
 |(s,x)::L=>upd (ar L) s (some x)
def ag:List (Nat×List AV×Bool)→Nat→Option (List AV×Bool)
 | []=>fun _=>none
 |(s,x)::L=>upd (ag L) s (some x)
theorem vo: ∀{L:List (Nat×AV)} {s:Nat} {x:AV},ar L s=some x→(s,x)∈L
 | [],s,x,h=>by cases h
 |(s',y)::L,s,x,h=>by
  simp only [ar,ax] at h;split at h
  ·rename_i e;cases h;subst e;simp
  ·exact List.mem_cons_of_mem _ (vo h)
theorem qD: ∀{L:List (Nat×List AV×Bool)} {s:Nat} {x:List AV×Bool},ag L s=some x→(s,x)∈L
 | [],s,x,h=>by cases h
 |(s',y)::L,s,x,h=>by
  simp only [ag,ax] at h;split at h
  ·rename_i e;cases h;subst e;simp
  ·exact List.mem_cons_of_mem _ (qD h)
def my (st:St) (fr:Fr):List (Nat×AV)→Prop
 | []=>True
 |(s,x)::L=>(∃v,fr s=some v∧AVle st v x)∧my st fr L
def pt (st:St):List (Nat×List AV×Bool)→Prop
 | []=>True
 |(s,cs,fz)::L=>(∃ds,st.box s=some (ds,fz)∧leL st ds cs)∧pt st L
def nM (L:List (Nat×AV)) (BL:List (Nat×List AV×Bool)):Bool:=(L.all fun x=>match x.2 with
 | .ptr id _=>BL.any fun y=>Nat.beq y.1 id
 |a=>a.keeps)&&BL.all fun y=>match Nat.ble 1000000 y.1 with
 |true=>true
 |false=>y.2.1.all AV.noFrs
def qE:List (Nat×List AV×Bool)→Prop
 | []=>True
 |(s,cs,_)::L=>match Nat.ble 1000000 s with
  |true=>cs.map AV.unown=cs∧qE L
  |false=>qE L
theorem lG {st:St} {fr:Fr}: ∀{L:List (Nat×AV)},my st fr L→ ∀x∈L,∃v,fr x.1=some v∧AVle st v x.2
 | [],_,x,g=>by cases g
 |y::L,h,x,g=>by
  rcases gB2 g with rfl|g
  ·exact h.1
  ·exact lG h.2 x g
theorem lH {st:St}: ∀{L:List (Nat×List AV×Bool)},pt st L→ ∀x∈L,∃ds,st.box x.1=some (ds,x.2.2)∧leL st ds x.2.1
 | [],_,x,g=>by cases g
 |y::L,h,x,g=>by
  rcases gB2 g with rfl|g
  ·exact h.1
  ·exact lH h.2 x g
theorem BF {cs:List AV} (h:cs.map AV.unown=cs): ∀d∈cs,d.noFrs=true:=by
 intro d i;obtain ⟨j,g⟩:=List.getElem?_of_mem i;have:(cs.map AV.unown)[j]? =some d:=by rw [h];exact g
 rw [gA8,g] at this;simp only [Option.map_some,gB9] at this;cases d<;>first|rfl|cases this
theorem GX {L:List (Nat×AV)}: ∀{BL:List (Nat×List AV×Bool)},nM L BL=true→qE BL→ ∀y∈BL,∀d∈y.2.1,d.noFrs=true:=by
 intro BL i j y hy
 have r: ∀z∈BL,(match Nat.ble 1000000 z.1 with|true=>true|false=>z.2.1.all AV.noFrs)=true:=by
  unfold nM at i;rw [gA9] at i;exact List.all_eq_true.1 i.2
 have p:=r y hy;cases hb:Nat.ble 1000000 y.1 with
 |false=>rw [hb] at p;exact List.all_eq_true.1 p
 |true=>
  have C: ∀(BL:List (Nat×List AV×Bool)),qE BL→ ∀y∈BL,Nat.ble 1000000 y.1=true→y.2.1.map AV.unown=y.2.1:=by
   intro BL
   induction BL with
   |nil=>intro _ y hy;cases hy
   |cons z L ih=>
    intro g y hy hb;obtain ⟨s,cs,fz⟩:=z;unfold qE at g;rcases gB2 hy with rfl|hy
    ·simp only at hb
     rw [hb] at g;exact g.1
    ·split at g
     ·exact ih g.2 y hy hb
     ·exact ih g y hy hb
  exact BF (C BL j y hy hb)
theorem oh: ∀{L:List (Nat×List AV×Bool)} {s:Nat} {x:Nat×List AV×Bool},x∈L→x.1=s→ag L s≠none
 |y::L,s,x,h,e=>by
  simp only [ag,ax];by_cases g:s=y.1
  ·rw [if_pos g];simp
  ·rw [if_neg g]
   rcases gB2 h with rfl|h
   ·exact absurd e.symm g
   ·exact oh h e
theorem wO {fr:Fr} {st:St} {L:List (Nat×AV)} {BL:List (Nat×List AV×Bool)} {row:Nat→Nat} (I:my st fr L) (J:pt st BL) (h3:st.row=row) (h4:nM L BL=true) (h5:qE BL:=by trivial):Weak fr st (ar L) ⟨ag BL,row⟩:=by
 intro E G a w h;subst h3
 have i: ∀id g,(if ag BL id=none then none else G.B id)=some g→G.B id=some g:=fun id g hg=>by
  split at hg
  ·cases hg
  ·exact hg
 have hx:G.less {G with B:=fun id=>if ag BL id=none then none else G.B id,φ:=fun _=>none}:=⟨rfl,rfl,i⟩
 refine ⟨{G with B:=fun id=>if ag BL id=none then none else G.B id,φ:=fun _=>none},
  { defers:=h.defers
    size:=h.size
    slots:=fun s x j=> ?_
    hold:=h.hold
    ext:=h.ext
    below:=h.below
    box:=fun id cs fz j=> ?_
    bnone:=fun id j=>by simp only at j⊢;rw [if_pos j]
    binj:=fun id id' g I J=>h.binj id id' g (i id g I) (i id' g J)
    row:=fun s r j=>⟨(h.row s r j).1,fun id hid=>(h.row s r j).2 id (i id _ hid)⟩
    rinj:=h.rinj
    rlt:=h.rlt
    phi:=fun k x U=>by cases U
    phinj:=fun k k' x x' U=>by cases U
    pnone:=fun _ _=>rfl
    small:=h.small
    keep:=fun id g I J=>h.keep id g I (i id g J)}⟩
 ·have P:=vo j
  obtain ⟨v0,hv0,p⟩:=lG I _ P;have C:=h4;unfold nM at C;rw [gA9] at C;have T:=List.all_eq_true.1 C.1 _ P;simp only at T p;refine (h.slots s v0 hv0).le h hx ?_ (fun id off g e hg=> ?_) p
  ·cases x<;>first|rfl|exact T
  ·subst e
   simp only [List.any_eq_true] at T;obtain ⟨y,hy,hyb⟩:=T;simp only;rw [if_neg (oh hy (Nat.eq_of_beq_eq_true hyb))];exact hg
 ·have P:=qD j
  obtain ⟨ds,hds,R⟩:=lH J _ P;obtain ⟨g,k1,k2,t,vs,k3,k4,k5,k6⟩:=h.box id ds fz hds;obtain ⟨q1,q2⟩:=pr h hx k4 k5 (GX h4 h5 _ P) R;refine ⟨g,?_,k2,t,vs,k3,q1,q2,k6⟩;simp only at j⊢;rw [if_neg (by rw [j];simp)];exact k1
theorem Weak.fz {fr:Fr} {st:St} {id:Nat} {cs:List AV} (hb:st.box id=some (cs,false)) (hmp:cC id=false):Weak fr st fr {st with box:=upd st.box id (some (cs,true))}:=by
 intro E G a w h;obtain ⟨g,i,_⟩:=h.box id cs false hb;obtain ⟨σ',_,j,_⟩:=h.freezeBox hb hmp i;exact ⟨_,j⟩
def jR (d id cap:Nat):AV→AV
 | .frs k esz rows=>match Nat.beq k d with
  |true=> .sli id esz rows.length cap
  |false=> .frs k esz rows
 | .sli i esz n c=>match Nat.beq i id with
  |true=> .top
  |false=> .sli i esz n c
 | .np i off=>match Nat.beq i id with
  |true=> .top
  |false=> .np i off
 |a=>a
def I9 (d id cap:Nat):AV→AV
 | .agg cs=> .agg (cs.map (jR d id cap))
 |a=>jR d id cap a
def D6 (d id cap:Nat):AV→AV
 | .agg cs=> .agg (cs.map (jR d id cap))
 | .tup l=> .tup (l.map (I9 d id cap))
 | .pel i esz j k c=>match Nat.beq i id with
  |true=> .top
  |false=> .pel i esz j k c
 |a=>jR d id cap a
def NA (d id cap:Nat):AV→AV
 | .when c a=> .when c (D6 d id cap a)
 |a=>D6 d id cap a
def GY (d id cap:Nat) (fr:Fr):Fr:=fun s=>match fr s with
 |some a=>some (NA d id cap a)
 |none=>none
def GZ (d id cap:Nat) (cs:List AV) (st:St):St:=⟨fun k=>match Nat.beq k id with
 |true=>some (cs,false)
 |false=>match st.box k with
  |some (ds,fz)=>some (ds.map (jR d id cap),fz)
  |none=>none,st.row⟩
theorem lI {G:Gho} {d id cap g esz:Nat} {rows:List (List AV)} (hid:1000000≤id) (hBn: ∀j,G.B id≠some j) (hd:G.φ d=some ⟨g,cap,esz,rows⟩) (U:rows.length≤cap) {v:Value} {x:AV} (h:Rel1 G.σ v x.unown∧TagOk G v x):
  Rel1 G.σ v (jR d id cap x).unown∧TagOk {G with B:=upd G.B id (some g),φ:=upd G.φ d none} v (jR d id cap x):=by
 cases x with
 |frs k e r=>
  simp only [jR];cases C:Nat.beq k d with
  |true=>
   have:=Nat.eq_of_beq_eq_true C;subst this;obtain ⟨J,g',cap',I,R⟩:=h;rw [hd] at I;cases I;exact ⟨J,hid,U,g,R,fun g' T=>by simp only [cf] at T;cases T;rfl⟩
  |false=>
   obtain ⟨J,g',cap',I,R⟩:=h;refine ⟨J,g',cap',?_,R⟩;simp only;rw [cU _ _ (fun e=>by rw [e,Nat.beq_refl] at C;cases C)];exact I
 |sli i e n c=>
  simp only [jR];cases C:Nat.beq i id with
  |true=>exact ⟨h.1,trivial⟩
  |false=>
   obtain ⟨J,I,R,g',h4,h5⟩:=h;refine ⟨J,I,R,g',h4,fun P p=>h5 P ?_⟩;simp only at p;rw [cU _ _ (fun e=>by rw [e,Nat.beq_refl] at C;cases C)] at p;exact p
 |np i off=>
  simp only [jR];cases C:Nat.beq i id with
  |true=>exact ⟨h.1,trivial⟩
  |false=>
   obtain ⟨J,I,g',h4,h5⟩:=h;refine ⟨J,I,g',h4,fun P p=>h5 P ?_⟩;simp only at p;rw [cU _ _ (fun e=>by rw [e,Nat.beq_refl] at C;cases C)] at p;exact p
 |lst t e l=>cases t<;>exact h
 |_=>exact h
theorem qF {G:Gho} {d id cap g esz:Nat} {rows:List (List AV)} (hid:1000000≤id) (r: ∀j,G.B id≠some j) (I:G.φ d=some ⟨g,cap,esz,rows⟩) (C:rows.length≤cap) {vs:List Value} {cs:List AV} (h:RelL G.σ vs (cs.map AV.unown)) (ht:TagsOk G vs cs):
  RelL G.σ vs ((cs.map (jR d id cap)).map AV.unown)∧TagsOk {G with B:=upd G.B id (some g),φ:=upd G.φ d none} vs (cs.map (jR d id cap)):=by
 have key: ∀(j:Nat) v b,vs[j]? =some v→cs[j]? =some b→_:=fun j v b p hb=>lI (v:=v) (x:=b) hid r I C ⟨h.2 j v _ p (by rw [gA8,hb];rfl),ht j v b p hb⟩
 refine ⟨⟨by have:=h.1;simpa using this,fun j v b p hb=> ?_⟩,fun j v b p hb=> ?_⟩
 ·rw [List.map_map,gA8] at hb
  cases i:cs[j]? with
  |none=>rw [i] at hb;cases hb
  |some c=>rw [i] at hb;cases hb;exact (key j v c p i).1
 ·rw [gA8] at hb
  cases i:cs[j]? with
  |none=>rw [i] at hb;cases hb
  |some c=>rw [i] at hb;cases hb;exact (key j v c p i).2
theorem Ja {G:Gho} {d id cap g esz:Nat} {rows:List (List AV)} (hid:1000000≤id) (p: ∀j,G.B id≠some j) (J:G.φ d=some ⟨g,cap,esz,rows⟩) (C:rows.length≤cap) {v:Value} {x:AV} (h:RelT G v x):
  RelT {G with B:=upd G.B id (some g),φ:=upd G.φ d none} v (I9 d id cap x):=by
 cases x with
 |sli i e n c=>
  have:=lI (v:=v) (x:= .sli i e n c) hid p J C h;simp only [I9,jR] at this⊢;cases I:Nat.beq i id with
  |true=>exact h.1
  |false=>rw [I] at this;exact this
 |np i off=>
  have:=lI (v:=v) (x:= .np i off) hid p J C h;simp only [I9,jR] at this⊢;cases I:Nat.beq i id with
  |true=>exact h.1
  |false=>rw [I] at this;exact this
 |frs k e r=>
  have:=lI (v:=v) (x:= .frs k e r) hid p J C h;simp only [I9,jR] at this⊢;split<;>(rename_i I;rw [I] at this;exact this)
 |agg cs=>
  obtain ⟨vs,e,P,R⟩:=h;obtain ⟨T,U⟩:=qF hid p J C P R;exact ⟨vs,e,T,U⟩
 |lst t e l=>cases t<;>exact h
 |_=>exact h
theorem BG {G:Gho} {d id cap g esz:Nat} {rows:List (List AV)} (hid:1000000≤id) (J: ∀j,G.B id≠some j) (hd:G.φ d=some ⟨g,cap,esz,rows⟩) (P:rows.length≤cap) {v:Value} {x:AV} (h:RelS0 G v x):
  RelS0 {G with B:=upd G.B id (some g),φ:=upd G.φ d none} v (D6 d id cap x):=by
 have one: ∀x:AV,(Rel1 G.σ v x.unown∧TagOk G v x)→_:=fun x R=>lI (v:=v) (x:=x) hid J hd P R
 cases x with
 |agg cs=>
  obtain ⟨vs,e,T,C⟩:=h;obtain ⟨U,h4⟩:=qF hid J hd P T C;exact ⟨vs,e,U,h4⟩
 |pel i e j k c=>
  obtain ⟨T,g',C,U⟩:=h;simp only [D6];cases I:Nat.beq i id with
  |true=>exact ⟨(by rw [C];exact .top _ rfl:Rel1 G.σ v .top),trivial⟩
  |false=>
   refine ⟨T,g',C,fun g'' p=>U g'' ?_⟩;simp only at p;rw [cU _ _ (fun e=>by rw [e,Nat.beq_refl] at I;cases I)] at p;exact p
 |ptr i off=>
  obtain ⟨g',T,C,U⟩:=h;refine ⟨g',?_,C,U⟩;simp only;rw [cU _ _ (by omega)];exact T
 |tup l=>
  obtain ⟨vs,e,T,C⟩:=h;refine ⟨vs,e,by rw [T,List.length_map],fun j u x hu R=> ?_⟩;rw [gA8] at R;cases hl:l[j]? with
  |none=>rw [hl] at R;cases R
  |some y=>rw [hl] at R;cases R;exact Ja hid J hd P (C j u y hu hl)
 |when c x=>exact h.elim
 |np i off=>
  have:=one _ h;simp only [D6,jR] at this⊢;split<;>(rename_i I;rw [I] at this;exact this)
 |frs k e r=>
  have:=one _ h;simp only [D6,jR] at this⊢;split<;>(rename_i I;rw [I] at this;exact this)
 |sli i e n c=>
  have:=one _ h;simp only [D6,jR] at this⊢;split<;>(rename_i I;rw [I] at this;exact this)
 |int k n=>exact one _ h
 |bool b=>exact one _ h
 |str b=>exact one _ h
 |lst t e l=>exact one _ h
 |ro cs=>exact one _ h
 |fn f cap=>exact one _ h
 |raw v=>exact one _ h
 |top=>exact one _ h
theorem MU {G:Gho} {v:Value} {x:AV} (h:RelS0 G v x):RelS G v x:=by
 cases x<;>first|exact h|exact h.elim
theorem Jb {G:Gho} {d id cap g esz:Nat} {rows:List (List AV)} (hid:1000000≤id) (i: ∀j,G.B id≠some j) (r:G.φ d=some ⟨g,cap,esz,rows⟩) (p:rows.length≤cap) {v:Value} {x:AV} (h:RelS G v x):
  RelS {G with B:=upd G.B id (some g),φ:=upd G.φ d none} v (NA d id cap x):=by
 cases x with
 |when c a=>exact ⟨fun C=>BG hid i r p (h.1 C),h.2⟩
 |_=>exact MU (BG hid i r p (by simp only [RelS] at h;exact h))
theorem Conc.open {E:Env} {G:Gho} {fr:Fr} {st:St} {ac:Act} {w:World} (i:Conc E G fr st ac w) (s d id:Nat) {esz:Nat} {rows:List (List AV)} (hd:fr s=some (.frs d esz rows)) (hid:1000000≤id) (hfree:st.box id=none) (hid2:id<2000000) (hmp:ew id=false):
  ∃cap m,rows.length≤cap∧(rows.flatten++List.replicate m AV.top).length=cap*esz∧ ∃G',Conc E G' (GY d id cap fr) (GZ d id cap (rows.flatten++List.replicate m AV.top) st) ac w:=by
 obtain ⟨_,g,cap,hφ,hv⟩:=i.slots s _ hd;obtain ⟨⟨hge,e,cur,hg,hsz,C,hlen,hr,hone,hfr⟩,hB,hρ⟩:=i.phi d _ hφ;simp only at hge hg hsz C hlen hr hfr hB hρ;have hBn: ∀j,G.B id≠some j:=fun j hj=>by rw [i.bnone id hfree] at hj;cases hj
 have hfl:rows.flatten.length=rows.length*esz:=by
  have: ∀l:List (List AV),(∀c∈l,c.length=esz)→l.flatten.length=l.length*esz:=by
   intro l
   induction l with
   |nil=>intro _;simp
   |cons x l ih=>intro R;rw [List.flatten_cons,gA5,gA3,ih fun c hc=>R c (by simp [hc]),R x (by simp),gC3];omega
  exact this rows hlen
 have hle:rows.length*esz≤cap*esz:=Nat.mul_le_mul_right _ C;have hm:(rows.flatten++List.replicate (cap*esz-rows.length*esz) AV.top).length=cap*esz:=by rw [gA5,List.length_replicate,hfl];omega
 refine ⟨cap,cap*esz-rows.length*esz,C,hm,{G with B:=upd G.B id (some g),φ:=upd G.φ d none},?_⟩
 have I: ∀id' g',upd G.B id (some g) id' =some g' →(id' =id∧g' =g)∨(id' ≠id∧G.B id' =some g'):=fun id' g' hg' =>by
  rw [ax] at hg';split at hg'
  ·rename_i e;cases hg';exact .inl ⟨e,rfl⟩
  ·rename_i e;exact .inr ⟨e,hg'⟩
 exact
 { defers:=i.defers
   size:=i.size
   slots:=fun s x p=>by
    unfold GY at p;split at p
    ·rename_i y hy
     cases p;exact Jb hid hBn hφ C (i.slots s y hy)
    ·cases p
   hold:=i.hold
   ext:=i.ext
   below:=i.below
   box:=fun id' cs fz p=>by
    simp only [GZ] at p;split at p
    ·rename_i hb
     have:=Nat.eq_of_beq_eq_true hb;subst this;cases p;refine ⟨g,cf _ _ _,hge,e,cur,.mk (Nu hmp) (fun e=>by rw [hmp] at e;cases e) hg,?_,?_,fun j=>hfr j⟩
     ·rw [List.map_append]
      have J:RelL G.σ (cur.toList.take (rows.length*esz)++cur.toList.drop (rows.length*esz)) (rows.flatten++List.replicate (cap*esz-rows.length*esz) AV.top):=by
       refine hr.append ⟨by rw [gA6,List.length_replicate];simp [hsz],fun j v x hv R=> ?_⟩;have hx2:x= .top:=by rw [List.getElem?_replicate] at R;split at R<;>cases R;rfl
       subst hx2;exact .top v (hone v (List.mem_of_mem_drop (gA2 hv)))
      rw [List.take_append_drop] at J;rw [←List.map_append,J.map_unown];exact J
     ·intro j v x hv R
      by_cases hj:j<rows.flatten.length
      ·rw [gC1 hj] at R
       have hvj:(cur.toList.take (rows.length*esz))[j]? =some v:=by rw [List.getElem?_take,if_pos (by omega)];exact hv
       exact (RelL.tags (G:={G with B:=upd G.B id' (some g),φ:=upd G.φ d none}) hr) j v x hvj R
      ·rw [gC2 (by omega),List.getElem?_replicate] at R
       split at R<;>cases R
       trivial
    ·rename_i hb
     have T:id' ≠id:=fun e=>by rw [e,Nat.beq_refl] at hb;cases hb
     split at p
     ·rename_i ds fz' hds'
      cases p;obtain ⟨g2,k1,k2,t2,vs2,k3,k4,k5,k6⟩:=i.box id' ds fz hds';obtain ⟨q1,q2⟩:=qF hid hBn hφ C k4 k5;exact ⟨g2,by simp only;rw [cU _ _ T];exact k1,k2,t2,vs2,k3,q1,q2,k6⟩
     ·cases p
   bnone:=fun id' p=>by
    simp only [GZ] at p⊢;split at p
    ·cases p
    ·rename_i hb
     have T:id' ≠id:=fun e=>by rw [e,Nat.beq_refl] at hb;cases hb
     rw [cU _ _ T];split at p
     ·cases p
     ·rename_i hn;exact i.bnone id' hn
   binj:=fun id1 id2 g' J U=>by
    rcases I _ _ J with ⟨e1,P⟩|⟨e1,P⟩<;>rcases I _ _ U with ⟨e3,e4⟩|⟨e3,e4⟩
    ·rw [e1,e3]
    ·subst P;exact absurd e4 (hB id2)
    ·subst e4;exact absurd P (hB id1)
    ·exact i.binj id1 id2 g' P e4
   row:=fun s r p=>⟨(i.row s r p).1,fun id' hid' =>by
    rcases I _ _ hid' with ⟨_,P⟩|⟨_,P⟩
    ·exact hρ s r p P
    ·exact (i.row s r p).2 id' P⟩
   rinj:=i.rinj
   rlt:=i.rlt
   phi:=fun k' x hk=>by
    simp only at hk;rw [ax] at hk;split at hk
    ·cases hk
    ·rename_i T
     obtain ⟨J,U,h3⟩:=i.phi k' x hk;refine ⟨J,fun id' hid' => ?_,h3⟩;rcases I _ _ hid' with ⟨_,P⟩|⟨_,P⟩
     ·exact T (i.phinj k' d x _ hk hφ P)
     ·exact U id' P
   phinj:=fun k1 k2 x x' J U=>by
    simp only at J U;rw [ax] at J U;split at J
    ·cases J
    ·split at U
     ·cases U
     ·exact i.phinj k1 k2 x x' J U
   pnone:=fun k' hk=>by
    simp only;rw [ax];split
    ·rfl
    ·refine i.pnone k' ?_
     unfold GY at hk;split at hk
     ·cases hk
     ·assumption
   small:=i.small
   keep:=fun id' g' J U=>by
    rcases I _ _ U with ⟨e1,_⟩|⟨_,P⟩
    ·omega
    ·exact i.keep id' g' J P}
theorem AK.open {P:Program} {E:Env} {Q:Exit→Fr→St→Prop} {k:List AItem} {fr:Fr} {st:St} {a:ACode} (s d id:Nat) {esz:Nat} {rows:List (List AV)} (C:fr s=some (.frs d esz rows)) (hid:1000000≤id) (g:st.box id=none)
  (h: ∀cap m,rows.length≤cap→(rows.flatten++List.replicate m AV.top).length=cap*esz→AK P E Q (.c a::k) (GY d id cap fr) (GZ d id cap (rows.flatten++List.replicate m AV.top) st)) (i:id<2000000:=by omega) (hmp:ew id=false:=by rfl):AK P E Q (.c a::k) fr st:=by
 intro j mu c G I w J p R;obtain ⟨cap,m,T,U,G',r⟩:=R.open s d id C hid g i hmp;exact h cap m T U j mu c G' I w J p r
theorem AK.fz {P:Program} {E:Env} {Q:Exit→Fr→St→Prop} {k:List AItem} {fr:Fr} {st:St} {a:ACode} (id:Nat) {cs:List AV} (hb:st.box id=some (cs,false)) (h:AK P E Q (.c a::k) fr {st with box:=upd st.box id (some (cs,true))}) (hmp:cC id=false:=by rfl):AK P E Q (.c a::k) fr st:=AK.weak (Weak.fz hb hmp) h
def NB (cs:List AV) (n:Nat) (agg:Bool):Option AV:=match agg with
 |true=>match nG n cs with
  |some cs=>some (.agg cs)
  |none=>none
 |false=>xz 0 cs
def qG (fr:Fr) (st:St):ARes→Option AV
 | .tmp t=>fr t
 | .cell t n agg=>match fr t with
  |some (.ptr id off)=>match st.cbox id with
   |some (cs,_)=>match nH off cs with
    |some cs=>NB cs n agg
    |none=>none
   |none=>none
  |_=>none
def bo (f:AV→Option AV) (fr:Fr) (st:St):List ARes→Option (List AV)
 | []=>some []
 |r::l=>match qG fr st r,bo f fr st l with
  |some a,some as=>match f a with
   |some x=>some (x::as)
   |none=>none
  |_,_=>none
abbrev resVals (fr:Fr) (st:St) (l:List ARes):Option (List AV):=bo AV.arg fr st l
def AV.argN:AV→Option AV
 | .np id off=>some (.np id off)
 | .ptr id off=>some (.np id off)
 | .sli id e n c=>some (.sli id e n c)
 |a=>a.arg
def AV.argM:AV→Option AV
 | .agg cs=>some (.agg (cs.map AV.told))
 | .lst t e l=>some (AV.lst t e l).told
 |a=>a.argN
def pu:List AV→List AV
 | []=> []
 | [a]=> [a.told]
 |a::l=>a.plain::pu l
def AV.argE:AV→Option AV
 | .agg cs=>some (.agg (pu cs))
 | .lst t e l=>some (AV.lst t e l).told
 |a=>a.argN
def oi:List AV→AV
 | [a]=>a
 |l=> .tup l
def vp (st:St):List (Nat×List AV)→Prop
 | []=>True
 |(id,cs)::l=>(∃ds,st.box id=some (ds,false)∧ds.map AV.told=cs)∧vp st l
def Jc (f:AV→Option AV) (res:List ARes) (S' :List (Nat×List AV)) (r:AV):Exit→Fr→St→Prop
 | .normal,fr,st| .ret,fr,st=>(∃l,bo f fr st res=some l∧oi l=r)∧vp st S'
 |_,_,_=>False
abbrev RQS (res:List ARes) (S' :List (Nat×List AV)) (r:AV):Exit→Fr→St→Prop:=Jc AV.argN res S' r
def RQF (g:AV→Option AV) (res:List ARes) (r:AV):Exit→Fr→St→Prop
 | .normal,fr,st| .ret,fr,st=> ∃l,bo g fr st res=some l∧oi l=r
 |_,_,_=>False
abbrev RQ (res:List ARes) (r:AV):Exit→Fr→St→Prop:=RQF AV.arg res r
def AV.argR:AV→Option AV
 | .agg cs=>some (.agg (cs.map AV.unown))
 | .lst t esz l=>some ((AV.lst t esz l).unown)
 |a=>a.arg
section
variable {P:Program} {mu:List Nat} {E:Env} {G:Gho} {fr fr' :Fr} {st st' :St} {a:Act} {w:World}
def vq (tmps:Array Value) (r:ResultVar):Sem Value:=
 match r with
 | .tmp t=>pure (tmps.getD t undef)
 | .cell a t=>do loadVar t (←asAddr (tmps.getD a undef))
theorem zO (h:Conc E G fr st a w) {f:AV→Option AV} {R:Value→AV→Prop} (hR: ∀v c x,RelS G v c→f c=some x→R v x): ∀{rs:List ResultVar} {I:List ARes} {l:List AV},nL P rs=some I→bo f fr st I=some l→
  ∃vs:List Value,(rs.mapM (vq a.tmps)).run P w= .ok vs w∧vs.length=l.length∧ ∀(j:Nat) v x,vs[j]? =some v→l[j]? =some x→R v x
 | [],I,l,C,i=>by
  cases C;cases i;exact ⟨[],by simp,rfl,fun j v x J=>by simp at J⟩
 | .tmp t::rs,I,l,C,i=>by
  unfold nL at C;split at C
  ·rename_i r hr
   cases C;unfold bo at i;split at i
   ·rename_i c as p has
    split at i
    ·rename_i x hx
     cases i;obtain ⟨vs,k1,k2,k3⟩:=zO h hR hr has;refine ⟨a.tmps.getD t undef::vs,by simp only [List.mapM_cons,vq,Sem.run_bind,Sem.run_pure,Result.andThen_ok,k1],by simp [k2],fun j v y J hy=> ?_⟩;cases j with
     |zero=>cases J;cases hy;exact hR _ _ _ (h.slots t c p) hx
     |succ j=>exact k3 j v y (by simpa using J) (by simpa using hy)
    ·cases i
   ·cases i
  ·cases C
 | .cell c t::rs,I,l,C,i=>by
  unfold nL at C;split at C
  ·rename_i inf r T hr
   split at C
   ·rename_i hu
    cases C;unfold bo at i;split at i
    ·rename_i av as p has
     split at i
     ·rename_i x hx
      cases i;obtain ⟨vs,k1,k2,k3⟩:=zO h hR hr has;simp only [qG] at p;split at p
      ·rename_i id off hp
       obtain ⟨g,hB,hpv,_⟩:=h.slots c _ hp;split at p
       ·rename_i cs fz hb
        obtain ⟨hb,hmp⟩:=az hb;obtain ⟨g',U,q1,ty,us,hg,hrl,htg,hfz⟩:=h.box id cs fz hb;replace hg:=hg.cells hmp;rw [hB] at U;cases U;split at p
        ·rename_i cs' hdr
         obtain ⟨hd1,hd2⟩:=de hdr;have hL:=lF (P:=P) (G:=G) hu T (mi hg off) (cs:=cs') (by rw [hd1,List.map_drop];exact hrl.drop off) (fun j u c hu' hc' =>by rw [hd1] at hc';exact htg (off+j) u c (by simpa using hu') (by simpa using hc'))
         have key: ∃v,(loadVar t ⟨g,off,none⟩).run P w= .ok v w∧RelS G v av:=by
          unfold NB at p;split at p
          ·rename_i ha
           split at p
           ·rename_i cs2 htk;cases p;exact hL.1 _ ha htk
           ·cases p
          ·rename_i ha;exact hL.2 _ ha p
         obtain ⟨v,hrun,hrel⟩:=key;refine ⟨v::vs,?_,by simp [k2],fun j u y J hy=> ?_⟩
         ·simp only [List.mapM_cons,vq,Sem.run_bind,hpv,asAddr,Sem.run_pure,Result.andThen_ok,hrun,k1]
         ·cases j with
          |zero=>simp at J hy;subst J hy;exact hR _ _ _ hrel hx
          |succ j=>exact k3 j u y (by simpa using J) (by simpa using hy)
        ·cases p
       ·cases p
      ·cases p
     ·cases i
    ·cases i
   ·cases C
  ·cases C
def dS:Nat→List AV→Fr
 |_,[]=>fun _=>none
 |k,a::l=>upd (dS (k+1) l) k (some a)
theorem BH: ∀{l:List AV} {k s:Nat} {x:AV},dS k l s=some x→k≤s∧l[s-k]? =some x
 | [],k,s,x,h=>by cases h
 |a::l,k,s,x,h=>by
  simp only [dS,ax] at h;split at h
  ·rename_i e;cases h;subst e;simp
  ·obtain ⟨i,g⟩:=BH h
   refine ⟨by omega,?_⟩;rw [show s-k=(s-(k+1))+1 by omega];simpa using g
theorem RelS.ofP {v:Value} {r:AV} (h:RelP G.σ v r):RelS G v r:=by
 cases r<;>first
  |exact RelS.of1 h
  |(obtain ⟨us,i,g⟩:=h;exact ⟨us,i,by rw [g.map_unown];exact g,g.tags⟩)
theorem RelR.ofP {σ:Sg} {v:Value} {x:AV} (h:RelP σ v x) (g:x.isTup=false):RelR σ v x:=by cases x<;>first|exact h|cases g
def mQ:List (Nat×List AV)→Nat→Option (List AV×Bool)
 | [],_=>none
 |(i,cs)::l,id=>match Nat.beq i id with
  |true=>some (cs,false)
  |false=>mQ l id
theorem BI: ∀{S:List (Nat×List AV)} {id:Nat} {x:List AV×Bool},mQ S id=some x→(id,x.1)∈S∧x.2=false
 |(i,c)::l,id,x,h=>by
  unfold mQ at h;split at h
  ·rename_i hb;cases h;rw [Nat.eq_of_beq_eq_true hb];exact ⟨by simp,rfl⟩
  ·obtain ⟨g,j⟩:=BI h;exact ⟨List.mem_cons_of_mem _ g,j⟩
theorem yH: ∀{S:List (Nat×List AV)} {id:Nat},mQ S id=none→id∉aw S
 | [],id,_=>by simp [aw]
 |(i,c)::l,id,h=>by
  unfold mQ at h;split at h
  ·cases h
  ·rename_i hb
   have:id≠i:=fun e=>by rw [e,Nat.beq_refl] at hb;cases hb
   have ih:=yH h;show id∉i::aw l;simp [this,ih]
def AV.okIn:AV→Bool
 | .np id _=>Nat.ble 1000000 id
 | .sli id _ _ _=>Nat.ble 1000000 id
 | .lst t _ _=>match t with
  | .own _ _=>false
  |_=>true
 | .frs _ _ _=>false
 |_=>true
def ft (S:List (Nat×List AV)) (args:List AV):Bool:=S.all (fun x=>Nat.ble 2000000 x.1&&x.2.all AV.okIn)&&args.all AV.okIn
theorem vr {G:Gho} {v:Value} {c:AV} (h:TagB G.B v c) (j:c.okIn=true):TagOk G v c:=by
 cases c with
 |np i o=>obtain ⟨g,p,C⟩:=h;exact ⟨Nat.le_of_ble_eq_true j,g,p,C⟩
 |sli i e n c=>obtain ⟨I,g,p,C⟩:=h;exact ⟨Nat.le_of_ble_eq_true j,I,g,p,C⟩
 |lst t e l=>cases t<;>first|trivial|cases j
 |frs k e r=>cases j
 |_=>trivial
theorem pv {G:Gho} {v:Value} {c:AV} (h:RelB1 G.σ G.B v c) (p:c.okIn=true):RelS G v c:=by
 cases c with
 |np i o=>exact ⟨by obtain ⟨g,j,_⟩:=h;rw [j];exact .top _ (FI _ _ _),vr h p⟩
 |sli i e n c=>exact ⟨by obtain ⟨_,g,j,_⟩:=h;rw [j];exact .top _ rfl,vr h p⟩
 |_=>exact RelS.ofP h
theorem gF: ∀{S:List (Nat×List AV)},vp st S→ ∀x∈S,∃ds,st.box x.1=some (ds,false)∧ds.map AV.told=x.2
 | [],_,x,g=>by cases g
 |y::l,h,x,g=>by
  rcases gB2 g with rfl|g
  ·exact h.1
  ·exact gF h.2 x g
theorem TagOk.toldB {B' :Nat→Option Nat} {v:Value} {c:AV} (r: ∀id g,B' id=some g→G.B id=some g) (h:TagOk G v c):TagB B' v c.told:=by
 cases c with
 |np i o=>obtain ⟨_,g,j,p⟩:=h;exact ⟨g,j,fun g' hg=>p g' (r _ _ hg)⟩
 |sli i e n c=>obtain ⟨_,C,g,j,p⟩:=h;exact ⟨C,g,j,fun g' hg=>p g' (r _ _ hg)⟩
 |lst t e l=>cases t<;>exact trivial
 |_=>exact trivial
theorem pw {B' :Nat→Option Nat} {v:Value} {c x:AV} (C: ∀id g,B' id=some g→G.B id=some g) (h:RelS G v c) (r:c.argN=some x):RelB1 G.σ B' v x:=by
 cases c with
 |np i o=>cases r;obtain ⟨_,_,g,j,p⟩:=h;exact ⟨g,j,fun g' hg=>p g' (C _ _ hg)⟩
 |sli i e n c=>cases r;obtain ⟨_,_,I,g,j,p⟩:=h;exact ⟨I,g,j,fun g' hg=>p g' (C _ _ hg)⟩
 |ptr i o=>cases r;obtain ⟨g,j,p,J⟩:=h;exact ⟨g,p.trans (dw (uu J) _ _).symm,fun g' hg=>by have:=C _ _ hg;rw [j] at this;cases this;rfl⟩
 |_=>exact .ofP (h.arg r)
theorem Jd {B' :Nat→Option Nat} {v:Value} {c x:AV} (r: ∀id g,B' id=some g→G.B id=some g) (h:RelS G v c) (i:c.argM=some x):RelB2 G.σ B' v x:=by
 cases c with
 |agg cs=>
  cases i;obtain ⟨vs,e,p,C⟩:=h;refine ⟨vs,e,by rw [List.map_map,show AV.unown∘AV.told=AV.unown from funext ec];exact p,fun j u x I i=> ?_⟩;rw [gA8] at i;cases hl:cs[j]? with
  |none=>rw [hl] at i;cases i
  |some y=>rw [hl] at i;cases i;exact (C j u y I hl).toldB r
 |lst t e l=>
  cases i;have p:=h.1;cases t<;>exact p
 |_=>exact RelB2.of1 (pw r h i)
theorem yI {B' :Nat→Option Nat} (I: ∀id g,B' id=some g→G.B id=some g): ∀{cs:List AV} {vs:List Value},RelL G.σ vs (cs.map AV.unown)→TagsOk G vs cs→RelL G.σ vs ((pu cs).map AV.unown)∧ ∀(j:Nat) u x,vs[j]? =some u→(pu cs)[j]? =some x→TagB B' u x
 | [],vs,h,ht=>⟨h,fun j u x p i=>by simp [pu] at i⟩
 | [a],vs,h,ht=>⟨by show RelL G.σ vs [a.told.unown];rw [ec];exact h,fun j u x p i=>by
   rcases j with _|j<;>simp [pu] at i
   subst i;exact (ht 0 u a p rfl).toldB I⟩
 |a::b::l,vs,h,ht=>by
  obtain _|⟨v,vs⟩:=vs
  ·have:=h.1;simp at this
  have J:Rel1 G.σ v a.unown:=h.head;have r:RelL G.σ vs ((b::l).map AV.unown):=h.tail;obtain ⟨P,i2⟩:=yI I r (fun j u x p i=>ht (j+1) u x p i);have C:Rel1 G.σ v a.plain:=by have:=J.plain;rwa [cD] at this
  refine ⟨?_,fun j u x p i=> ?_⟩
  ·show RelL G.σ (v::vs) (a.plain.unown::(pu (b::l)).map AV.unown)
   rw [C.unown];exact .cons C P
  ·rcases j with _|j
   ·have p:v=u:=by simpa using p
    have i:a.plain=x:=by simpa [pu] using i
    subst p i;exact C.tagB
   ·exact i2 j u x (by simpa using p) (by simpa [pu] using i)
theorem BJ {B' :Nat→Option Nat} {v:Value} {c x:AV} (p: ∀id g,B' id=some g→G.B id=some g) (h:RelS G v c) (i:c.argE=some x):RelB2 G.σ B' v x:=by
 cases c with
 |agg cs=>
  cases i;obtain ⟨vs,e,j,r⟩:=h;obtain ⟨C,I⟩:=yI p j r;exact ⟨vs,e,C,I⟩
 |lst t e l=>
  cases i;have j:=h.1;cases t<;>exact j
 |_=>exact RelB2.of1 (pw p h i)
theorem vt {f:AV} {x:AV} (h:f.argE=some x):x.isTup=false:=by
 cases f with
 |lst t e l=>cases h;cases t<;>rfl
 |_=>first|(cases h;rfl)|cases h
theorem D7 {f:AV} {x:AV} (h:f.argM=some x):x.isTup=false:=by
 cases f with
 |lst t e l=>cases h;cases t<;>rfl
 |_=>first|(cases h;rfl)|cases h
theorem vu {f:AV} {x:AV} (h:f.argN=some x):x.isTup=false:=by
 cases f<;>first|(cases h;rfl)|cases h
def NC (us:List Value):Value:=match us with
 | [u]=>u
 |us=> .tuple us.toArray
theorem px (h:Conc E G fr st a w) {fn:Func} {f:AV→Option AV} {R:Value→AV→Prop} (i: ∀v c x,RelS G v c→f c=some x→R v x) {g:List ARes} {l:List AV} (p:nL P fn.results.toList=some g) (r:bo f fr st g=some l):
  ∃us,(results fn a.tmps).run P w= .ok (NC us) w∧us.length=l.length∧ ∀(j:Nat) v x,us[j]? =some v→l[j]? =some x→R v x:=by
 obtain ⟨us,C,I,J⟩:=zO h i p r;refine ⟨us,?_,I,J⟩
 have T:(fn.results.mapM (vq a.tmps)).run P w= .ok us.toArray w:=by
  rw [Array.mapM_eq_mapM_toList,Sem.run_map,C];rfl
 have e:results fn a.tmps=(do let vs←fn.results.mapM (vq a.tmps);pure (if h:vs.size=1 then vs[0] else .tuple vs)):=rfl;rw [e,Sem.run_bind,T]
 have U:(if h:us.toArray.size=1 then us.toArray[0] else .tuple us.toArray)=NC us:=by
  rcases us with _|⟨u,_|⟨v,us⟩⟩
  ·rfl
  ·rfl
  ·rw [dif_neg (by simp)];rfl
 rw [←U];rfl
def ρ0 (R:Nat→Option RowI):Nat→Nat→Option RowI:=fun k v=>match v with
 |0=>R k
 |_+1=>none
def AV.okInK:AV→Bool
 | .lst (.own _ v) _ _=>Nat.beq v 0
 |a=>a.okIn
def okInK (S:List (Nat×List AV)) (args:List AV):Bool:=S.all (fun x=>Nat.ble 2000000 x.1&&x.2.all AV.okInK)&&args.all AV.okInK
theorem MV {a:AV} (h:a.okIn=true):a.okInK=true:=by
 cases a<;>first|exact h|(rename_i t _ _;cases t<;>first|exact h|cases h)
theorem G0 {σ:Sg} {B:Nat→Option Nat} {R:Nat→Option RowI} {φ:Nat→Option FRow} {v:Value} {c:AV} (h:TagB B v c∧sU R v c) (g:c.okInK=true):TagOk ⟨σ,B,ρ0 R,φ⟩ v c:=by
 cases c with
 |lst t e l=>cases t with
  |own k n=>
   have hn:n=0:=Nat.eq_of_beq_eq_true g;subst hn;exact h.2
  |_=>trivial
 |_=>exact vr (G:=⟨σ,B,ρ0 R,φ⟩) h.1 g
theorem G6 {σ:Sg} {B:Nat→Option Nat} {R:Nat→Option RowI} {v:Value} {c:AV} (h:RelK1 σ B R v c) (g:c.okInK=true):RelS ⟨σ,B,ρ0 R,fun _=>none⟩ v c:=by
 cases c with
 |lst t e l=>cases t with
  |own k n=>
   have hn:n=0:=Nat.eq_of_beq_eq_true g;subst hn;exact h
  |_=>exact pv (G:=⟨σ,B,ρ0 R,fun _=>none⟩) h g
 |_=>exact pv (G:=⟨σ,B,ρ0 R,fun _=>none⟩) h g
theorem vw {ks:List Nat} {R:Nat→Option RowI} {f:FuncId} {fn:Func} {af:AFn} {args:List AV} {S:List (Nat×List AV)} (hf:P.funcs[f]? =some fn) (p:aq P mu fn=some af) (hlen:Nat.ble args.length af.n=true) (C:okInK S []=true) {Q:Exit→Fr→St→Prop}
  (hbody: ∀E:Env,E.n=af.n→AK P E Q [.c af.body] (dS 0 args) ⟨mQ S,fun _=>0⟩) {σ:Sg} {w:World} {B:Nat→Option Nat} {vs:List Value} (hh:Holds σ w) (hg:GW w) (hdom: ∀id g,B id=some g→id∈aw S) (hinj: ∀id id' g,B id=some g→B id' =some g→id=id')
  (hgl: ∀id g,B id=some g→ ¬ob g) (J:RowsW σ w B R ks) (hat:BoxesAtK σ w B R S) (hvl:vs.length=args.length) (hr: ∀(j:Nat) v x,vs[j]? =some v→args[j]? =some x→RelS ⟨σ,B,ρ0 R,fun _=>none⟩ v x) {U:Ending→World→Prop}
  (hpost: ∀(E:Env) (G' :Gho) (f' :Fr) (s' :St) (a' :Act) (w' :World) (e:Exit),E.w0=w→E.σ0=σ→E.B0=B→E.Kx=(fun b=> ∃k r,R k=some r∧r.g=b)→Conc E G' f' s' a' w' →Q e f' s' →nL P fn.results.toList=some af.res→(e= .normal∨e= .ret)∧ ∃v,(results fn a'.tmps).run P w' = .ok v w' ∧U (.returned v) w'):Calls P f vs.toArray w U:=by
 unfold okInK at C;rw [gA9] at C;unfold aq at p;split at p
 ·rename_i c hbc
  split at p
  ·rename_i b rr hcode hres
   split at p
   ·rename_i T
    cases p;simp only [gA9] at T;refine calls_of_wp hf hbc ?_;have hle:args.length≤fn.ntmps:=Nat.le_of_ble_eq_true hlen;have hkx: ∀b,(∃k r,R k=some r∧r.g=b)→ ¬ob b:=fun b ⟨k,r,i,I⟩=>I▸(J.at_ k r i).2.2.1
    have hC:Conc ⟨w,fn.ntmps,σ,hg,B,hgl,fun b=> ∃k r,R k=some r∧r.g=b,hkx⟩ ⟨σ,B,ρ0 R,fun _=>none⟩ (dS 0 args) ⟨mQ S,fun _=>0⟩ {tmps:=vs.toArray++Array.replicate (fn.ntmps-vs.toArray.size) undef,defers:= []} w:=
     { defers:=rfl
       size:=by simp;omega
       slots:=fun s x hs=>by
        obtain ⟨_,I⟩:=BH hs;rw [Nat.sub_zero] at I;have hsl:s<vs.length:=by rw [hvl];exact (gA0 I).1
        have hv:vs[s]? =some vs[s]:=gA1 hsl
        have e:(vs.toArray++Array.replicate (fn.ntmps-vs.toArray.size) undef).getD s undef=vs[s]:=by
         rw [Array.getD_eq_getD_getElem?,Array.getElem?_append_left (by simpa using hsl)];simp [hv]
        simp only [e];exact hr s _ x hv I
       hold:=hh
       ext:=(Ext.refl _ _).toK _
       below:=BelowK.refl _ _
       box:=fun id cs fz hs=>by
        obtain ⟨hm,hf⟩:=BI hs;simp only at hf hm;subst hf;obtain ⟨g,t,vs',k1,k2,k3,k4,k5⟩:=hat id cs hm;have hall:=List.all_eq_true.1 C.1 _ hm;rw [gA9] at hall;exact ⟨g,k1,.inr (.inl ⟨id,k1⟩),t,vs',k2,k3,fun j v c hv hc=>G0 (k4 j v c hv hc) (List.all_eq_true.1 hall.2 c (gA2 hc)),fun j=>k5 j⟩
       bnone:=fun id hs=>by
        show B id=none;cases hB:B id with
        |none=>rfl
        |some g=>exact absurd (hdom id g hB) (yH hs)
       binj:=hinj
       row:=fun s r i=>⟨⟨.inr (.inr ⟨s,r,i,rfl⟩),(J.at_ s r i).2.1⟩,(J.at_ s r i).2.2.2⟩
       rinj:=fun s s' r r' i I he=>J.inj s s' r r' i I he
       rlt:=fun s v x i=>by cases v with
        |zero=>exact gB8 _
        |succ v=>cases i
       phi:=fun k x i=>by cases i
       phinj:=fun k k' x x' i=>by cases i
       pnone:=fun _ _=>rfl
       small:=Nat.le_of_ble_eq_true T.2
       keep:=fun id g _ i=>i}
    refine wp_mono (hbody ⟨w,fn.ntmps,σ,hg,B,hgl,fun b=> ∃k r,R k=some r∧r.g=b,hkx⟩ rfl T.1.1 mu c _ _ w hcode T.1.1 hC) fun e a' w' ⟨G',f',s',hC',hQ⟩=> ?_
    have hQ' :Q e f' s' :=by cases e<;>exact hQ
    obtain ⟨he,v,i,I⟩:=hpost _ G' f' s' a' w' e rfl rfl rfl rfl hC' hQ' hres;rcases he with rfl|rfl
    ·exact ⟨hC'.defers,v,i,I⟩
    ·exact ⟨hC'.defers,v,i,I⟩
   ·cases p
  ·cases p
 ·cases p
theorem ol {f:FuncId} {fn:Func} {J:AFn} {args:List AV} {S:List (Nat×List AV)} (hf:P.funcs[f]? =some fn) (haf:aq P mu fn=some J) (hlen:Nat.ble args.length J.n=true) (i:ft S []=true) {Q:Exit→Fr→St→Prop}
  (C: ∀E:Env,E.n=J.n→AK P E Q [.c J.body] (dS 0 args) ⟨mQ S,fun _=>0⟩) {σ:Sg} {w:World} {B:Nat→Option Nat} {vs:List Value} (hh:Holds σ w) (hg:GW w) (T: ∀id g,B id=some g→id∈aw S) (U: ∀id id' g,B id=some g→B id' =some g→id=id')
  (hgl: ∀id g,B id=some g→ ¬ob g) (hat:BoxesAt σ w B S) (hvl:vs.length=args.length) (hr: ∀(j:Nat) v x,vs[j]? =some v→args[j]? =some x→RelS ⟨σ,B,fun _ _=>none,fun _=>none⟩ v x) {p:Ending→World→Prop}
  (I: ∀(E:Env) (G' :Gho) (f' :Fr) (s' :St) (a' :Act) (w' :World) (e:Exit),E.w0=w→E.σ0=σ→E.B0=B→E.Kx=(fun _=>False)→Conc E G' f' s' a' w' →Q e f' s' →nL P fn.results.toList=some J.res→(e= .normal∨e= .ret)∧ ∃v,(results fn a'.tmps).run P w' = .ok v w' ∧p (.returned v) w'):Calls P f vs.toArray w p:=by
 have e0:ρ0 (fun _=>none)=fun _ _=>none:=by
  funext k v;cases v<;>rfl
 unfold ft at i;rw [gA9] at i
 have hS: ∀x∈S,x.2.all AV.okIn=true:=fun x hx=>by
  have:=List.all_eq_true.1 i.1 x hx;rw [gA9] at this;exact this.2
 refine vw (ks:= []) (R:=fun _=>none) hf haf hlen ?_ C hh hg T U hgl ⟨fun k r h=>(by cases h),fun k k' r r' h=>(by cases h)⟩ (fun id cs hm=> ?_) hvl (by rw [e0];exact hr) fun E G' f' s' a' w' e e1 e2 e3 e4=>I E G' f' s' a' w' e e1 e2 e3 (e4.trans ?_)
 ·unfold okInK
  rw [gA9];refine ⟨List.all_eq_true.2 fun x hx=> ?_,rfl⟩;have:=List.all_eq_true.1 i.1 x hx;rw [gA9] at this⊢;exact ⟨this.1,List.all_eq_true.2 fun c hc=>MV (List.all_eq_true.1 this.2 c hc)⟩
 ·obtain ⟨g,t,vs',k1,k2,k3,k4,k5⟩:=hat id cs hm
  refine ⟨g,t,vs',k1,k2,k3,fun j v c hv hc=>⟨k4 j v c hv hc,?_⟩,k5⟩;have:=List.all_eq_true.1 (hS _ hm) c (gA2 hc);cases c<;>first|trivial|(rename_i t _ _;cases t<;>first|trivial|cases this)
 ·funext b
  exact propext ⟨fun ⟨k,r,h,_⟩=>(by cases h),fun h=>h.elim⟩
theorem yJ {f:FuncId} {fn:Func} {C:AFn} {args:List AV} (hf:P.funcs[f]? =some fn) (U:aq P mu fn=some C) (hlen:Nat.ble args.length C.n=true) {Q:Exit→Fr→St→Prop}
  (p: ∀E:Env,E.n=C.n→AK P E Q [.c C.body] (dS 0 args) ⟨fun _=>none,fun _=>0⟩) {σ:Sg} {w:World} {vs:List Value} (hh:Holds σ w) (hr:RelPs σ vs args) (hg:GW w) {i:Ending→World→Prop}
  (r: ∀(E:Env) (G' :Gho) (J:Fr) (s' :St) (R:Act) (w' :World) (e:Exit),E.w0=w→Ext σ G'.σ w.heap.size→Below w.heap.size w w' →(∀g,E.own g→w.heap.size≤g)→Conc E G' J s' R w' →Q e J s' →nL P fn.results.toList=some C.res→(e= .normal∨e= .ret)∧ ∃v,(results fn R.tmps).run P w' = .ok v w' ∧i (.returned v) w'):Calls P f vs.toArray w i:=by
 refine ol (S:= []) (B:=fun _=>none) hf U hlen rfl p hh hg (fun _ _ h=>by cases h) (fun _ _ _ h=>by cases h) (fun _ _ h=>by cases h) (fun _ _ h=>by cases h) hr.1 (fun j v x hv hx=>RelS.ofP (hr.2 j v x hv hx)) fun E G' J s' R w' e T e2 e3 e4 hC hQ I=> ?_
 have hn: ∀b,¬E.K0 b:=fun b hb=>by
  rcases hb with ⟨id,hb⟩|hb
  ·rw [e3] at hb;cases hb
  ·rw [e4] at hb;exact hb
 have h1:=hC.ext.ext hn;have h2:=hC.below.below hn;rw [T,e2] at h1;rw [T] at h2
 exact r E G' J s' R w' e T h1 h2 (fun g hg=>by rcases hg with hg|hg; ·rw [T] at hg;exact hg
                                                ·exact absurd hg (hn g)) hC hQ I
theorem AC.enterF {g:AV→Option AV} (hG: ∀{G:Gho} {v:Value} {c x:AV},RelS G v c→g c=some x→RelP G.σ v x∧x.isTup=false) {f:FuncId} {fn:Func} {C:AFn} {args:List AV} {r:AV} (hf:P.funcs[f]? =some fn) (U:aq P mu fn=some C) (hcb:ab P f=true) (hlen:Nat.ble args.length C.n=true)
  (i: ∀E:Env,E.n=C.n→AK P E (RQF g C.res r) [.c C.body] (dS 0 args) ⟨fun _=>none,fun _=>0⟩):AC P f args r:=by
 refine ⟨hcb,fun σ w vs hh hr hg=>yJ hf U hlen i hh hr hg fun E G' f' s' a' w' e _ p hb _ hC hQ I=> ?_⟩;have he:e= .normal∨e= .ret:=by cases e<;>first|exact .inl rfl|exact .inr rfl|exact hQ.elim
 have hQ' : ∃l,bo g f' s' C.res=some l∧oi l=r:=by rcases he with rfl|rfl<;>exact hQ
 obtain ⟨l,hl,hr1⟩:=hQ';obtain ⟨us,k1,J,T⟩:=px hC (R:=fun v x=>RelP G'.σ v x∧x.isTup=false) (fun v c x hc p=>hG hc p) I hl;refine ⟨he,_,k1,G'.σ,_,rfl,p,hC.hold,hb,?_⟩;subst hr1;rcases us with _|⟨u,_|⟨v,us⟩⟩
 ·have:l= []:=List.eq_nil_of_length_eq_zero J.symm
  subst this;exact ⟨[],rfl,rfl,fun j u x hu p=>(T j u x hu p).1⟩
 ·obtain ⟨x,rfl⟩:=List.length_eq_one_iff.1 J.symm
  exact RelR.ofP (T 0 u x rfl rfl).1 (T 0 u x rfl rfl).2
 ·rcases l with _|⟨x,_|⟨y,l⟩⟩<;>simp at J
  exact ⟨u::v::us,rfl,by simp [J],fun j u x hu p=>(T j u x hu p).1⟩
theorem La {c x:AV} (h:c.arg=some x):x.isTup=false:=by
 cases c<;>first
  |(cases h;rfl)
  |cases h
theorem Je {c x:AV} (h:c.argR=some x):x.isTup=false:=by
 cases c<;>first
  |(cases h;rfl)
  |(rename_i t _ _;cases t<;>(cases h;rfl))
  |cases h
theorem AC.enter {f:FuncId} {fn:Func} {i:AFn} {args:List AV} {r:AV} (I:P.funcs[f]? =some fn) (j:aq P mu fn=some i) (p:ab P f=true) (hlen:Nat.ble args.length i.n=true)
  (g: ∀E:Env,E.n=i.n→AK P E (RQ i.res r) [.c i.body] (dS 0 args) ⟨fun _=>none,fun _=>0⟩):AC P f args r:=
 AC.enterF (fun J C=>⟨J.arg C,La C⟩) I j p hlen g
theorem AC.enterR {f:FuncId} {fn:Func} {i:AFn} {args:List AV} {r:AV} (R:P.funcs[f]? =some fn) (p:aq P mu fn=some i) (C:ab P f=true) (hlen:Nat.ble args.length i.n=true)
  (g: ∀E:Env,E.n=i.n→AK P E (RQF AV.argR i.res r) [.c i.body] (dS 0 args) ⟨fun _=>none,fun _=>0⟩):AC P f args r:=
 AC.enterF (fun {G v c x} I j=>by
  cases c with
  |agg cs=>cases j;obtain ⟨vs,rfl,J,T⟩:=I;exact ⟨⟨vs,rfl,J⟩,rfl⟩
  |lst t esz l=>
   cases j;have J:Rel1 G.σ v (AV.lst t esz l).unown:=I.1;cases t<;>exact ⟨J,rfl⟩
  |_=>exact ⟨I.arg j,Je j⟩) R p C hlen g
theorem MS.enterF {gx:AV→Option AV} (hgx: ∀{G:Gho} {B' :Nat→Option Nat} {v:Value} {c x:AV},(∀id g,B' id=some g→G.B id=some g)→RelS G v c→gx c=some x→RelB2 G.σ B' v x∧x.isTup=false) {f:FuncId} {fn:Func} {af:AFn} {args:List AV} {S S' :List (Nat×List AV)} {r:AV} (hf:P.funcs[f]? =some fn) (haf:aq P mu fn=some af) (hcb:ab P f=true) (hlen:Nat.ble args.length af.n=true) (hokS:ft S args=true)
  (hbody: ∀E:Env,E.n=af.n→AK P E (Jc gx af.res S' r) [.c af.body] (dS 0 args) ⟨mQ S,fun _=>0⟩):MS P f S args S' r:=by
 have J:=hokS;unfold ft at J;rw [gA9] at J
 have hbig: ∀id,id∈aw S→2000000≤id:=fun id hid=>by
  obtain ⟨x,C,e⟩:=List.mem_map.1 hid;have:=List.all_eq_true.1 J.1 x C;rw [gA9] at this;rw [←e];exact Nat.le_of_ble_eq_true this.1
 refine ⟨hcb,fun σ w B vs hh hg U hinj hgl hat hr=>ol hf haf hlen (by unfold ft;rw [gA9];exact ⟨J.1,rfl⟩) hbody hh hg U hinj hgl hat hr.1 (fun j v x hv C=>pv (G:=⟨σ,B,fun _ _=>none,fun _=>none⟩) (hr.2 j v x hv C) (List.all_eq_true.1 J.2 x (gA2 C))) fun E G' f' s' a' w' e e1 e2 e3 e4 p hQ hres=> ?_⟩;have he:e= .normal∨e= .ret:=by cases e<;>first|exact .inl rfl|exact .inr rfl|exact hQ.elim
 have hQ' :(∃l,bo gx f' s' af.res=some l∧oi l=r)∧vp s' S' :=by rcases he with rfl|rfl<;>exact hQ
 obtain ⟨⟨l,hl,hr1⟩,hbx⟩:=hQ';have I: ∀id g,inB G'.B (aw S') id=some g→id∈aw S' ∧G'.B id=some g:=fun id g hg=>aH hg
 obtain ⟨us,k1,k2,k3⟩:=px p (R:=fun v x=>RelB2 G'.σ (inB G'.B (aw S')) v x∧x.isTup=false) (fun v c x hc C=>hgx (fun id g hg=>(I id g hg).2) hc C) hres hl
 have hown: ∀id g,inB G'.B (aw S') id=some g→(∃id',B id' =some g)∨w.heap.size≤g:=fun id g hg=>by
  obtain ⟨q1,q2⟩:=I id g hg;obtain ⟨x,C,e⟩:=List.mem_map.1 q1;obtain ⟨ds,d1,d2⟩:=gF hbx x C;obtain ⟨g2,d3,T,_⟩:=p.box x.1 ds false d1;rw [e,q2] at d3;cases d3;rcases T with T|⟨i,T⟩|T
  ·rw [e1] at T;exact .inr T
  ·rw [e3] at T;exact .inl ⟨i,T⟩
  ·rw [e4] at T;exact T.elim
 have C:=p.ext;have hb:=p.below;have hKe:E.K0=fun b=> ∃id,B id=some b:=by funext b;unfold Env.K0;rw [e3,e4];simp
 rw [hKe,e1,e2] at C;rw [hKe,e1] at hb;refine ⟨he,_,k1,G'.σ,_,inB G'.B (aw S'),rfl,C,p.hold,hb,fun id g hg=>(I id g hg).1,fun id id' g h1 h2=>p.binj id id' g (I id g h1).2 (I id' g h2).2,fun id cs hm=> ?_,?_,hown,fun id g g' h1 h2=> ?_⟩
 ·obtain ⟨ds,d1,d2⟩:=gF hbx _ hm
  simp only at d1 d2;subst d2;obtain ⟨g2,d3,T,t,vs',d5,d6,d7,d8⟩:=p.box id ds false d1;have hdm:id∈aw S' :=List.mem_map.2 ⟨_,hm,rfl⟩;refine ⟨g2,t,vs',by rw [iC hdm];exact d3,d5,?_,fun j v c hv hc=> ?_,fun j=>d8 j⟩
  ·rw [List.map_map,show AV.unown∘AV.told=AV.unown from funext ec]
   exact d6
  ·rw [gA8] at hc
   cases hc0:ds[j]? with
   |none=>rw [hc0] at hc;cases hc
   |some c0=>rw [hc0] at hc;cases hc;exact (d7 j v c0 (by simpa using hv) hc0).toldB fun id g hg=>(I id g hg).2
 ·subst hr1
  rcases us with _|⟨u,_|⟨v,us⟩⟩
  ·have:l= []:=List.eq_nil_of_length_eq_zero k2.symm
   subst this;exact ⟨[],rfl,rfl,fun j u x hu C=>(k3 j u x hu C).1⟩
  ·obtain ⟨x,rfl⟩:=List.length_eq_one_iff.1 k2.symm
   obtain ⟨q1,q2⟩:=k3 0 u x rfl rfl;show RelB _ _ u x;cases x<;>first|exact q1|cases q2
  ·rcases l with _|⟨x,_|⟨y,l⟩⟩<;>simp at k2
   exact ⟨u::v::us,rfl,by simp [k2],fun j u x hu C=>(k3 j u x hu C).1⟩
 ·have h3:=p.keep id g' (hbig id (U id g h1)) (I id g' h2).2
  rw [e3,h1] at h3;exact Option.some.inj h3
def vz (st:St) (ks:List Nat):List (Nat×List AV)→Prop
 | []=>True
 |(id,cs)::l=>(∃ds,st.box id=some (ds,false)∧ds.map (AV.toldK st.row ks)=cs)∧vz st ks l
theorem om {ks:List Nat}: ∀{S:List (Nat×List AV)},vz st ks S→ ∀x∈S,∃ds,st.box x.1=some (ds,false)∧ds.map (AV.toldK st.row ks)=x.2
 | [],_,x,g=>by cases g
 |y::l,h,x,g=>by
  rcases gB2 g with rfl|g
  ·exact h.1
  ·exact om h.2 x g
def AV.resK (row:Nat→Nat) (ks:List Nat):AV→Option AV
 | .agg cs=>some (.agg (cs.map (AV.toldK row ks)))
 |a=>a.argK row ks
theorem Jf {ids ks:List Nat} {v:Value} {c x:AV} (h:RelS G v c) (g:c.resK st.row ks=some x):RelK2 G.σ (inB G.B ids) (inR G st.row ks) v x∧x.isTup=false:=by
 cases c with
 |agg cs=>
  cases g;obtain ⟨vs,e,p,C⟩:=h;refine ⟨⟨vs,e,by rw [List.map_map,show AV.unown∘AV.toldK st.row ks=AV.unown from funext (ik _ _)];exact p,fun j u x I g=> ?_⟩,rfl⟩;rw [gA8] at g;cases hl:cs[j]? with
  |none=>rw [hl] at g;cases g
  |some y=>rw [hl] at g;cases g;exact (C j u y I hl).toK
 |lst t e l=>
  have:=iW (ids:=ids) h g;cases t with
  |own k n=>
   have g:some (AV.toldK st.row ks (.lst (.own k n) e l))=some x:=g;unfold AV.toldK at g;simp only at g;split at g<;>(cases g;exact ⟨this,rfl⟩)
  |_=>cases g;exact ⟨this,rfl⟩
 |ptr i o=>have:=iW (ids:=ids) (ks:=ks) (st:=st) h g;cases g;exact ⟨this,rfl⟩
 |np i o=>have:=iW (ids:=ids) (ks:=ks) (st:=st) h g;cases g;exact ⟨this,rfl⟩
 |sli i e n c=>have:=iW (ids:=ids) (ks:=ks) (st:=st) h g;cases g;exact ⟨this,rfl⟩
 |tup l=>cases g
 |when c x=>cases g
 |pel i e j k c=>cases g
 |frs k e r=>cases g
 |_=>have:=iW (ids:=ids) (ks:=ks) (st:=st) h g;cases g;exact ⟨this,rfl⟩
def RQK (res:List ARes) (ks:List Nat) (S' :List (Nat×List AV)) (r:AV):Exit→Fr→St→Prop
 | .normal,fr,st| .ret,fr,st=>(∃l,bo (AV.resK st.row ks) fr st res=some l∧oi l=r)∧vz st ks S'
 |_,_,_=>False
theorem MTK.enter {f:FuncId} {fn:Func} {af:AFn} {args:List AV} {ks ks' :List Nat} {S S' :List (Nat×List AV)} {r:AV} (hf:P.funcs[f]? =some fn) (haf:aq P mu fn=some af) (hcb:ab P f=true) (hlen:Nat.ble args.length af.n=true) (hokS:okInK S args=true)
  (U: ∀E:Env,E.n=af.n→AK P E (RQK af.res ks' S' r) [.c af.body] (dS 0 args) ⟨mQ S,fun _=>0⟩):MTK P f ks S args ks' S' r:=by
 have I:=hokS;unfold okInK at I;rw [gA9] at I
 have hbig: ∀id,id∈aw S→2000000≤id:=fun id hid=>by
  obtain ⟨x,p,e⟩:=List.mem_map.1 hid;have:=List.all_eq_true.1 I.1 x p;rw [gA9] at this;rw [←e];exact Nat.le_of_ble_eq_true this.1
 refine ⟨hcb,fun σ w B R vs hh hg T hinj hgl hrw hat hr=>vw hf haf hlen (by unfold okInK;rw [gA9];exact ⟨I.1,rfl⟩) U hh hg T hinj hgl hrw hat hr.1 (fun j v x hv p=>G6 (hr.2 j v x hv p) (List.all_eq_true.1 I.2 x (gA2 p))) fun E G' f' s' a' w' e e1 e2 e3 e4 i hQ hres=> ?_⟩;have he:e= .normal∨e= .ret:=by cases e<;>first|exact .inl rfl|exact .inr rfl|exact hQ.elim
 have hQ' :(∃l,bo (AV.resK s'.row ks') f' s' af.res=some l∧oi l=r)∧vz s' ks' S' :=by rcases he with rfl|rfl<;>exact hQ
 obtain ⟨⟨l,hl,hr1⟩,hbx⟩:=hQ';have C: ∀id g,inB G'.B (aw S') id=some g→id∈aw S' ∧G'.B id=some g:=fun id g hg=>aH hg
 obtain ⟨us,k1,k2,k3⟩:=px i (R:=fun v x=>RelK2 G'.σ (inB G'.B (aw S')) (inR G' s'.row ks') v x∧x.isTup=false) (fun v c x hc p=>Jf hc p) hres hl;have hKe:E.K0=KBR B R:=by funext b;unfold Env.K0 KBR;rw [e3,e4]
 have J: ∀g,E.own g→KBR B R g∨w.heap.size≤g:=fun g hg=>by
  unfold Env.own at hg;rw [hKe,e1] at hg;exact hg.symm
 have hown: ∀id g,inB G'.B (aw S') id=some g→KBR B R g∨w.heap.size≤g:=fun id g hg=>by
  obtain ⟨q1,q2⟩:=C id g hg;obtain ⟨x,p,e⟩:=List.mem_map.1 q1;obtain ⟨ds,d1,d2⟩:=om hbx x p;obtain ⟨g2,d3,d4,_⟩:=i.box x.1 ds false d1;rw [e,q2] at d3;cases d3;exact J g d4
 have p:=i.ext;have hb:=i.below;rw [hKe,e1,e2] at p;rw [hKe,e1] at hb;refine ⟨he,_,k1,G'.σ,_,inB G'.B (aw S'),inR G' s'.row ks',rfl,p,i.hold,hb,fun id g hg=>(C id g hg).1,fun id id' g h1 h2=>i.binj id id' g (C id g h1).2 (C id' g h2).2,⟨fun k r hr=> ?_,fun k k' r r' h1 h2 he=>i.rinj k k' r r' (eA h1).2 (eA h2).2 he⟩,fun id cs hm=> ?_,?_,hown,fun k r hr=>J r.g (i.row k r (eA hr).2).1.1,fun id g g' h1 h2=> ?_⟩
 ·obtain ⟨q1,q2⟩:=eA hr
  obtain ⟨q3,q4⟩:=i.row k r q2;exact ⟨q1,q3.2,E.ownGl q3.1,fun id hid=>q4 id (C id _ hid).2⟩
 ·obtain ⟨ds,d1,d2⟩:=om hbx _ hm
  simp only at d1 d2;subst d2;obtain ⟨g2,d3,d4,t,vs',d5,d6,d7,d8⟩:=i.box id ds false d1;have hdm:id∈aw S' :=List.mem_map.2 ⟨_,hm,rfl⟩;refine ⟨g2,t,vs',by rw [iC hdm];exact d3,d5,?_,fun j v c hv hc=> ?_,fun j=>d8 j⟩
  ·rw [List.map_map,show AV.unown∘AV.toldK s'.row ks' =AV.unown from funext (ik _ _)]
   exact d6
  ·rw [gA8] at hc
   cases hc0:ds[j]? with
   |none=>rw [hc0] at hc;cases hc
   |some c0=>rw [hc0] at hc;cases hc;exact (d7 j v c0 (by simpa using hv) hc0).toK
 ·subst hr1
  rcases us with _|⟨u,_|⟨v,us⟩⟩
  ·have:l= []:=List.eq_nil_of_length_eq_zero k2.symm
   subst this;exact ⟨[],rfl,rfl,fun j u x hu p=>(k3 j u x hu p).1⟩
  ·obtain ⟨x,rfl⟩:=List.length_eq_one_iff.1 k2.symm
   obtain ⟨q1,q2⟩:=k3 0 u x rfl rfl;show RelK _ _ _ u x;cases x<;>first|exact q1|cases q2
  ·rcases l with _|⟨x,_|⟨y,l⟩⟩<;>simp at k2
   exact ⟨u::v::us,rfl,by simp [k2],fun j u x hu p=>(k3 j u x hu p).1⟩
 ·have h3:=i.keep id g' (hbig id (T id g h1)) (C id g' h2).2
  rw [e3,h1] at h3;exact Option.some.inj h3
theorem MS.enter {f:FuncId} {fn:Func} {i:AFn} {args:List AV} {S S' :List (Nat×List AV)} {r:AV} (J:P.funcs[f]? =some fn) (p:aq P mu fn=some i) (C:ab P f=true) (hlen:Nat.ble args.length i.n=true) (j:ft S args=true)
  (g: ∀E:Env,E.n=i.n→AK P E (RQS i.res S' r) [.c i.body] (dS 0 args) ⟨mQ S,fun _=>0⟩):MS P f S args S' r:=
 MS.enterF (gx:=AV.argN) (fun R h I=>⟨RelB2.of1 (pw R h I),vu I⟩) J p C hlen j g
theorem MS.enterM {f:FuncId} {fn:Func} {i:AFn} {args:List AV} {S S' :List (Nat×List AV)} {r:AV} (J:P.funcs[f]? =some fn) (p:aq P mu fn=some i) (C:ab P f=true) (hlen:Nat.ble args.length i.n=true) (j:ft S args=true)
  (g: ∀E:Env,E.n=i.n→AK P E (Jc AV.argM i.res S' r) [.c i.body] (dS 0 args) ⟨mQ S,fun _=>0⟩):MS P f S args S' r:=
 MS.enterF (gx:=AV.argM) (fun R h I=>⟨Jd R h I,D7 I⟩) J p C hlen j g
theorem MS.enterE {f:FuncId} {fn:Func} {i:AFn} {args:List AV} {S S' :List (Nat×List AV)} {r:AV} (J:P.funcs[f]? =some fn) (p:aq P mu fn=some i) (C:ab P f=true) (hlen:Nat.ble args.length i.n=true) (j:ft S args=true)
  (g: ∀E:Env,E.n=i.n→AK P E (Jc AV.argE i.res S' r) [.c i.body] (dS 0 args) ⟨mQ S,fun _=>0⟩):MS P f S args S' r:=
 MS.enterF (gx:=AV.argE) (fun R h I=>⟨BJ R h I,vt I⟩) J p C hlen j g
def RQT (res:List ARes) (esz:Nat) (rows:List (List AV)) (as:List AV):Exit→Fr→St→Prop
 | .normal,fr,st| .ret,fr,st=> ∃t s rs,res= .tmp t::rs∧fr t=some (.lst (.own s (st.row s)) esz rows)∧resVals fr st rs=some as
 |_,_,_=>False
def AV.argO:AV→Option AV
 | .lst (.own s v) e l=>some (.lst (.own s v) e l)
 |a=>a.arg
theorem G7 {a x:AV} (h:a.arg=some x) (g:x.flat1=true):a.argO=some x:=by
 cases a<;>first
  |exact h
  |(rename_i t e l;cases t<;>first|exact h|(cases h;cases g))
theorem FU {σ:Sg} {v:Value} {c:AV} (h:Rel1 σ v c) (g:c.flat1=true) {σ' :Sg}:Rel1 σ' v c:=by
 cases h with
 |int k n=>exact .int k n
 |bool b=>exact .bool b
 |str s=>exact .str s
 |_=>cases g
def RowsAt (esz:Nat) (rows:List (List AV)):Prop:= ∀(i:Nat) (c:List AV),rows[i]? =some c→c.length=esz
theorem RowsAt.at_ {esz:Nat} {rows:List (List AV)} (h:RowsAt esz rows) {i:Nat} {c:List AV} (g:rows[i]? =some c) {j:Nat} {x:AV} (p:c[j]? =some x):rows.flatten[i*esz+j]? =some x:=by
 induction rows generalizing i with
 |nil=>simp at g
 |cons y l ih=>
  have hy:=h 0 y rfl;rw [List.flatten_cons];cases i with
  |zero=>
   simp at g;subst g;rw [Nat.zero_mul,Nat.zero_add,gC1 (gA0 p).1];exact p
  |succ i=>
   rw [gC2 (by rw [hy,gC3];omega),hy,show (i+1)*esz+j-esz=i*esz+j by rw [gC3];omega];exact ih (fun i c hi=>h (i+1) c (by simpa using hi)) (by simpa using g)
theorem MT.enter {f:FuncId} {fn:Func} {af:AFn} {args:List AV} {esz:Nat} {rows:List (List AV)} {as:List AV} (hf:P.funcs[f]? =some fn) (haf:aq P mu fn=some af) (hcb:ab P f=true) (hlen:Nat.ble args.length af.n=true) (hpos:0<rows.length) (hesz:0<esz) (hflat: ∀c∈rows,∀x∈c,x.flat1=true) (hpl:as≠ [])
  (has: ∀x∈as,x.flat1=true)
  (hbody: ∀E:Env,E.n=af.n→AK P E (RQT af.res esz rows as) [.c af.body] (dS 0 args) ⟨fun _=>none,fun _=>0⟩):MT P f args esz rows as:=by
 refine ⟨hcb,fun σ w vs hh hr hg=>yJ hf haf hlen hbody hh hr hg fun E G' f' s' a' w' e e1 p hb hown hC hQ U=> ?_⟩;have he:e= .normal∨e= .ret:=by cases e<;>first|exact .inl rfl|exact .inr rfl|exact hQ.elim
 have hQ' : ∃t s rs,af.res= .tmp t::rs∧f' t=some (.lst (.own s (s'.row s)) esz rows)∧resVals f' s' rs=some as:=by rcases he with rfl|rfl<;>exact hQ
 obtain ⟨t,s,rs,hres2,hft,hrs⟩:=hQ';rw [hres2] at U
 have hall:bo AV.argO f' s' (.tmp t::rs)=some (.lst (.own s (s'.row s)) esz rows::as):=by
  have h2: ∀(rs:List ARes) (as:List AV),resVals f' s' rs=some as→(∀x∈as,x.flat1=true)→bo AV.argO f' s' rs=some as:=by
   intro rs
   induction rs with
   |nil=>intro as h _;cases h;rfl
   |cons r rs ih=>
    intro as h T;unfold resVals bo at h;split at h
    ·rename_i a as' ha has'
     split at h
     ·rename_i x p
      cases h;have hxf:=T x (by simp);simp only [bo,ha,ih as' has' (fun y hy=>T y (List.mem_cons_of_mem _ hy)),G7 p hxf]
     ·cases h
    ·cases h
  have h3:=h2 rs as hrs has;simp only [bo,qG,hft,h3,AV.argO]
 obtain ⟨us,k1,k2,k3⟩:=px hC (R:=fun v x=>match x with| .lst (.own s v2) e l=>RelS G' v (.lst (.own s v2) e l)|x=>RelP G'.σ v x) (fun v c x C p=>by
  have key: ∀x,c.arg=some x→(match x with| .lst (.own s v2) e l=>RelS G' v (.lst (.own s v2) e l)|x=>RelP G'.σ v x):=fun x p=>by
   have h3:=C.arg p;cases x<;>first|exact h3|(rename_i t e l;cases t<;>first|exact h3|(cases c<;>cases p))
  cases c<;>first|exact key x p|(rename_i t e l;cases t<;>first|exact key x p|(cases p;exact C))) U hall
 obtain ⟨u,J,rfl⟩: ∃u J,us=u::J:=by
  rcases us with _|⟨u,J⟩
  ·simp at k2
  ·exact ⟨u,J,rfl⟩
 have hu:=k3 0 u _ rfl rfl;obtain ⟨A,cap,b,o,fv,q1,q2,q3,q4,q5,q6,q7,_,_⟩:=cN hu;have hne: ¬rows.length=0:=by omega
 rcases q7 with ⟨h0,_⟩|⟨g,cap2,I,hρ⟩
 ·exact absurd h0 hne
 obtain ⟨⟨hge,e2,cur,hg,⟨hn,_⟩,⟨hsz,hone⟩,_⟩,_⟩:=hC.row s _ hρ;simp only at hge hg hn hsz;rw [q1] at I;injection I with ha _ C
 subst ha C;have hb0:=q3 hpos;injection hb0 with hb0
 injection hb0 with hb1 hb2
 subst hb1 hb2;have hle:w.heap.size≤g:=hown g hge
 have hus:J≠ []:=by
  rcases J with _|⟨x,l⟩
  ·simp at k2
   exact absurd k2 hpl
  ·simp
 refine ⟨he,_,k1,fun b o=>if b=g then none else G'.σ b o,g,cap,J,?_,⟨by simpa using k2,fun j v x I p=> ?_⟩,⟨fun b o v I=> ?_,fun b o hb=> ?_⟩,fun b o v I=> ?_,hb,hle,e2,cur,hg,hsz,hn,(fun c C=>by obtain ⟨i,hi⟩:=List.getElem?_of_mem C;exact q4 i c hi),⟨?_,fun j v x I p=> ?_⟩,hone,fun j=>if_pos rfl⟩
 ·rw [q1]
  rcases J with _|⟨x,l⟩
  ·exact absurd rfl hus
  ·rfl
 ·have h1:=k3 (j+1) v x (by simpa using I) (by simpa using p)
  have h2:=has x (gA2 p);cases x<;>first|exact FU (show Rel1 G'.σ v _ from h1) h2|cases h2
 ·have:b≠g:=fun e=>by
   have:=p.2 b o
   have h3:σ b o=none:=by
    cases hq:σ b o with
    |none=>rfl
    |some u=>have:=World.block_lt_of_cell? w _ (hh _ _ _ hq);simp only at this;omega
   rw [h3] at I;cases I
  simp only [if_neg this];exact p.1 b o v I
 ·simp only [if_neg (show¬b=g by omega)]
  exact p.2 b o hb
 ·simp only at I
  split at I
  ·cases I
  ·exact hC.hold b o v I
 ·have T:rows.flatten.length=rows.length*esz:=by
   have: ∀l:List (List AV),(∀c∈l,c.length=esz)→l.flatten.length=l.length*esz:=by
    intro l
    induction l with
    |nil=>intro _;simp
    |cons x l ih=>intro p;rw [List.flatten_cons,gA5,gA3,ih fun c C=>p c (by simp [C]),p x (by simp),gC3];omega
   exact this rows fun c C=>by obtain ⟨i,hi⟩:=List.getElem?_of_mem C;exact q4 i c hi
  have:=Nat.mul_le_mul_right esz hn;rw [gA7,T];simp only [Array.length_toList];omega
 ·have hjl:=(gA0 p).1
  have T:rows.flatten.length=rows.length*esz:=by
   have: ∀l:List (List AV),(∀c∈l,c.length=esz)→l.flatten.length=l.length*esz:=by
    intro l
    induction l with
    |nil=>intro _;simp
    |cons x l ih=>intro p;rw [List.flatten_cons,gA5,gA3,ih fun c C=>p c (by simp [C]),p x (by simp),gC3];omega
   exact this rows fun c C=>by obtain ⟨i,hi⟩:=List.getElem?_of_mem C;exact q4 i c hi
  have hjr:j / esz<rows.length:=Nat.div_lt_of_lt_mul (by rw [Nat.mul_comm,←T];exact hjl);have hjm:j%esz<esz:=Nat.mod_lt _ hesz;have hje:j=j / esz*esz+j%esz:=by rw [Nat.mul_comm];exact (Nat.div_add_mod j esz).symm
  have C:rows[j / esz]? =some rows[j / esz]:=gA1 hjr;have hcl:=q4 _ _ C
  have hxc:rows[j / esz][j%esz]? =some x:=by
   have hro:RowsAt esz rows:=fun i c hi=>q4 i c hi
   have:=hro.at_ C (j:=j%esz) (x:=rows[j / esz][j%esz]'(by omega)) (gA1 _);rw [←hje,p] at this;cases this;exact gA1 _
  have h1:=q5 (j / esz) (j%esz) hjr hjm;rw [Nat.zero_add,←hje] at h1;have h2:=hC.hold _ _ _ h1;rw [cell_of_row w' g j cur e2 (0,0) hg] at h2
  have h3:v=fv (j / esz) (j%esz):=by
   rw [List.getElem?_take] at I;split at I
   ·have:cur[j]? =some v:=by simpa using I
    rw [this] at h2;exact Option.some.inj h2
   ·cases I
  rw [h3];exact FU (q6 _ _ _ _ C hxc) (hflat _ (gA2 C) x (gA2 hxc))
def AV.ren (ρ:Nat→Nat):AV→AV
 | .np id off=> .np (ρ id) off
 | .sli id e n c=> .sli (ρ id) e n c
 |a=>a
def qH (ρ:Nat→Nat) (S:List (Nat×List AV)):List (Nat×List AV):=S.map fun x=>(ρ x.1,x.2.map (AV.ren ρ))
def AV.ren2 (ρ:Nat→Nat):AV→AV
 | .agg cs=> .agg (cs.map (AV.ren ρ))
 |a=>a.ren ρ
def AV.renR (ρ:Nat→Nat):AV→AV
 | .tup l=> .tup (l.map (AV.ren2 ρ))
 |a=>a.ren2 ρ
theorem qI (ρ:Nat→Nat) (a:AV):(a.ren ρ).unown=a.unown:=by cases a<;>rfl
theorem TagB.ren {ρ:Nat→Nat} (g: ∀i,kd (ρ i)=kd i) {B j:Nat→Option Nat} (h: ∀i,B (ρ i)=j i) {v:Value} {a:AV}:TagB B v (a.ren ρ)↔TagB j v a:=by
 have e:j=fun i=>B (ρ i):=funext fun i=>(h i).symm
 subst e;cases a with
 |np i o=>unfold TagB;simp only [AV.ren,npV,ID (g _)]
 |_=>exact Iff.rfl
theorem RelB1.ren {ρ:Nat→Nat} (g: ∀i,kd (ρ i)=kd i) {σ:Sg} {B j:Nat→Option Nat} (h: ∀i,B (ρ i)=j i) {v:Value} {a:AV}:RelB1 σ B v (a.ren ρ)↔RelB1 σ j v a:=by
 have e:j=fun i=>B (ρ i):=funext fun i=>(h i).symm
 subst e;cases a with
 |np i o=>exact TagB.ren (a:= .np i o) g (fun _=>rfl)
 |_=>exact Iff.rfl
theorem RelB2.ren {ρ:Nat→Nat} (g: ∀i,kd (ρ i)=kd i) {σ:Sg} {B r:Nat→Option Nat} (h: ∀i,B (ρ i)=r i) {v:Value} {a:AV} (hr:RelB2 σ r v a):RelB2 σ B v (a.ren2 ρ):=by
 cases a with
 |agg cs=>
  obtain ⟨vs,e,C,I⟩:=hr;refine ⟨vs,e,by rw [List.map_map,show AV.unown∘AV.ren ρ=AV.unown from funext (qI ρ)];exact C,fun j u x J p=> ?_⟩;rw [gA8] at p;cases hl:cs[j]? with
  |none=>rw [hl] at p;cases p
  |some y=>rw [hl] at p;cases p;exact (TagB.ren g h).2 (I j u y J hl)
 |np i o=>exact (RelB1.ren g (σ:=σ) (a:= .np i o) h).2 hr
 |sli i e n c=>exact (RelB1.ren g (σ:=σ) (a:= .sli i e n c) h).2 hr
 |_=>exact hr
theorem RelB.ren {ρ:Nat→Nat} (g: ∀i,kd (ρ i)=kd i) {σ:Sg} {B r:Nat→Option Nat} (h: ∀i,B (ρ i)=r i) {v:Value} {a:AV} (hr:RelB σ r v a):RelB σ B v (a.renR ρ):=by
 cases a with
 |tup l=>
  obtain ⟨vs,e,C,I⟩:=hr;refine ⟨vs,e,by rw [C,List.length_map],fun j u x J p=> ?_⟩;rw [gA8] at p;cases hl:l[j]? with
  |none=>rw [hl] at p;cases p
  |some y=>rw [hl] at p;cases p;exact RelB2.ren g h (I j u y J hl)
 |agg cs=>exact RelB2.ren (σ:=σ) (a:= .agg cs) g h hr
 |np i o=>exact (RelB1.ren g (σ:=σ) (a:= .np i o) h).2 hr
 |sli i e n c=>exact (RelB1.ren g (σ:=σ) (a:= .sli i e n c) h).2 hr
 |_=>exact hr
theorem BoxesAt.ren {ρ:Nat→Nat} (p: ∀i,kd (ρ i)=kd i) {σ:Sg} {w:World} {B C:Nat→Option Nat} (h: ∀i,B (ρ i)=C i) {S:List (Nat×List AV)} (I:BoxesAt σ w C S):BoxesAt σ w B (qH ρ S):=by
 intro id cs J;obtain ⟨x,P,e⟩:=List.mem_map.1 J;cases e;obtain ⟨g,t,vs,R,T,U,k4,k5⟩:=I x.1 x.2 P;refine ⟨g,t,vs,(h x.1).trans R,T.num (p _),by rw [List.map_map,show AV.unown∘AV.ren ρ=AV.unown from funext (qI ρ)];exact U,fun j v c hv r=> ?_,k5⟩;rw [gA8] at r;cases hl:x.2[j]? with
 |none=>rw [hl] at r;cases r
 |some y=>rw [hl] at r;cases r;exact (TagB.ren p h).2 (k4 j v y hv hl)
theorem BoxesAt.unren {ρ:Nat→Nat} (p: ∀i,kd (ρ i)=kd i) {σ:Sg} {w:World} {B r:Nat→Option Nat} (h: ∀i,B (ρ i)=r i) {S:List (Nat×List AV)} (I:BoxesAt σ w B (qH ρ S)):BoxesAt σ w r S:=by
 intro id cs J;obtain ⟨g,t,vs,P,R,C,T,U⟩:=I (ρ id) (cs.map (AV.ren ρ)) (List.mem_map.2 ⟨(id,cs),J,rfl⟩);rw [List.map_map,show AV.unown∘AV.ren ρ=AV.unown from funext (qI ρ)] at C;exact ⟨g,t,vs,(h id).symm.trans P,R.num (p _).symm,C,fun j v c hv hc=>(TagB.ren p h).1 (T j v (c.ren ρ) hv (by rw [gA8,hc];rfl)),U⟩
theorem iZ (ρ:Nat→Nat) (S:List (Nat×List AV)):aw (qH ρ S)=(aw S).map ρ:=by unfold aw qH;rw [List.map_map,List.map_map];rfl
open Classical in
noncomputable def unren {α:Type} (ρ:Nat→Nat) (g:Nat→Option α):Nat→Option α:=fun id=>if h: ∃i,ρ i=id then g (Classical.choose h) else none
theorem fu {α:Type} {ρ:Nat→Nat} (r: ∀i j,ρ i=ρ j→i=j) (g:Nat→Option α) (i:Nat):unren ρ g (ρ i)=g i:=by
 have p: ∃j,ρ j=ρ i:=⟨i,rfl⟩
 unfold unren;rw [dif_pos p,r _ _ (Classical.choose_spec p)]
theorem aQ {α:Type} {ρ:Nat→Nat} {j:Nat→Option α} {id:Nat} {g:α} (h:unren ρ j id=some g): ∃i,ρ i=id∧j i=some g:=by
 unfold unren at h;split at h
 ·rename_i p;exact ⟨_,Classical.choose_spec p,h⟩
 ·cases h
theorem MS.ren {f:FuncId} {args:List AV} {S S' :List (Nat×List AV)} {r:AV} (h:MS P f S args S' r) (ρ:Nat→Nat) (hρ: ∀i j,ρ i=ρ j→i=j) (hm: ∀i,kd (ρ i)=kd i):MS P f (qH ρ S) (args.map (AV.ren ρ)) (qH ρ S') (r.renR ρ):=by
 refine ⟨h.cb,fun σ w B vs hh hg C T hgl hat hr=> ?_⟩
 have hK: ∀b,(∃i,B (ρ i)=some b)↔ ∃id,B id=some b:=fun b=>by
  constructor
  ·rintro ⟨i,hi⟩;exact ⟨_,hi⟩
  ·rintro ⟨id,hid⟩
   have:=C id b hid;rw [iZ] at this;obtain ⟨i,_,rfl⟩:=List.mem_map.1 this;exact ⟨i,hid⟩
 have hKe:(fun b=> ∃i,B (ρ i)=some b)=fun b=> ∃id,B id=some b:=funext fun b=>propext (hK b)
 refine (h.run σ w (fun i=>B (ρ i)) vs hh hg (fun i g hi=> ?_) (fun i j g U h2=>hρ _ _ (T _ _ g U h2)) (fun i g hi=>hgl _ g hi) (hat.unren hm fun _=>rfl) ⟨by rw [hr.1,List.length_map],fun j v a hv ha=>(RelB1.ren hm fun _=>rfl).1 (hr.2 j v (a.ren ρ) hv (by rw [gA8,ha];rfl))⟩).mono fun e w' ⟨σ',v,B1,he,hx,hh',hb,I,J,hat',hr',p,R⟩=> ?_
 ·have:=C _ g hi
  rw [iZ] at this;obtain ⟨k,hk,e⟩:=List.mem_map.1 this;rw [hρ _ _ e] at hk;exact hk
 ·rw [hKe] at hx hb
  refine ⟨σ',v,unren ρ B1,he,hx,hh',hb,fun id g hg=> ?_,fun id id' g U h2=> ?_,hat'.ren hm (fu hρ B1),hr'.ren hm (fu hρ B1),fun id g hg=> ?_,fun id g g' U h2=> ?_⟩
  ·obtain ⟨i,rfl,hi⟩:=aQ hg
   rw [iZ];exact List.mem_map.2 ⟨i,I i g hi,rfl⟩
  ·obtain ⟨i,rfl,hi⟩:=aQ U
   obtain ⟨j,rfl,hj⟩:=aQ h2;rw [J i j g hi hj]
  ·obtain ⟨i,rfl,hi⟩:=aQ hg
   exact (p i g hi).imp (fun ⟨k,hk⟩=>⟨_,hk⟩) id
  ·obtain ⟨i,rfl,hi⟩:=aQ h2
   exact R i g g' U hi
end
section
variable {P:Program} {E:Env} {Q:Exit→Fr→St→Prop} {k:List AItem} {fr fr' :Fr} {st st' :St}
theorem kS {a b:ACode} (h:AK P E Q (.c a:: .c b::k) fr st):AK P E Q (.c (.seq a b)::k) fr st:=AK.seq h
theorem kB {id:Nat} {b:ACode} (h:AK P E Q (.c b:: .blk id::k) fr st):AK P E Q (.c (.block id b)::k) fr st:=AK.block h
theorem kL {id:Nat} (h:AK P E Q k fr st):AK P E Q (.blk id::k) fr st:=AK.blk h
theorem kN (h:AK P E Q k fr st):AK P E Q (.c .skip::k) fr st:=AK.skip h
theorem kR (i:P.follows .mixedOrders=true) (rs:List RS) {l:List GI} {g:List RS} {p:Prop} (j:iS P l rs fr st=some (g,fr',st',p)) (r:p) (h:AK P E Q k fr' st'):AK P E Q (.c (.reg l)::k) fr st:=AK.reg i j r h
theorem kT1:True:=trivial
theorem kT2:True∧True:=⟨trivial,trivial⟩
theorem kT3:True∧True∧True:=⟨trivial,trivial,trivial⟩
theorem kT4:True∧True∧True∧True:=⟨trivial,trivial,trivial,trivial⟩
theorem kA (i:P.follows .mixedOrders=true) {l:List GI} {g:List RS} {p:Prop} (h:AK P E Q k fr' st') (j:iS P l [] fr st=some (g,fr',st',p):=by rfl) (r:p:=by first|exact kT1|exact kT2|exact kT3|exact kT4):AK P E Q (.c (.reg l)::k) fr st:=AK.reg i j r h
theorem kG {p:Prop} (h:p:=by repeat (first|exact trivial|assumption|constructor)):p:=h
theorem kD {p:Prop} (h:p:=by first|trivial|omega|(simp only [List.length_nil,gA3];omega)|(show _∨_;first|exact .inl rfl|exact .inr (Nat.succ_pos _))|(intro g;rw [g];rfl)|(intro g;refine ⟨?_,kG⟩;(repeat' apply aI)<;>first|trivial|omega|(intro i;rw [g,i];rfl))|(intro i;rw [g,i];rfl)):p:=h
end
def Opd.ks (f:Unit→{s:ByteArray}→AV):Opd→Opd
 | .k (.str b)=> .k (@f () b)
 |x=>x
def AI.ks (f:Unit→{s:ByteArray}→AV):AI→AI
 | .mov d x=> .mov d (x.ks f)
 | .pick d c a b=> .pick d (c.ks f) (a.ks f) (b.ks f)
 | .box d x=> .box d (x.ks f)
 | .st n p x=> .st n p (x.ks f)
 | .b2s d x=> .b2s d (x.ks f)
 | .idx d e x i=> .idx d e (x.ks f) i
 | .bin d o b x y=> .bin d o b (x.ks f) (y.ks f)
 | .build d z ps=> .build d z (ps.map fun q=>(q.1,q.2.1,q.2.2.ks f))
 | .bsl d n e z ps=> .bsl d n e z (ps.map fun q=>(q.1,q.2.1,q.2.2.ks f))
 | .len d s x=> .len d s (x.ks f)
 | .app d e n x y=> .app d e n x (y.ks f)
 | .appr d e n x y=> .appr d e n x (y.ks f)
 | .call d g as=> .call d g (as.map (Opd.ks f))
 | .callr d g as=> .callr d g (as.map (Opd.ks f))
 | .callo d g as=> .callo d g (as.map (Opd.ks f))
 | .calls d g as=> .calls d g (as.map (Opd.ks f))
 | .mop o d as=> .mop o d (as.map (Opd.ks f))
 | .sub d s e x lo hi=> .sub d s e (x.ks f) lo hi
 | .bidx d x i=> .bidx d (x.ks f) i
 | .mx d m x y=> .mx d m (x.ks f) (y.ks f)
 | .conv d k x=> .conv d k (x.ks f)
 | .mkfn d g c=> .mkfn d g (c.map (Opd.ks f))
 | .eqs d n t x y=> .eqs d n t (x.ks f) (y.ks f)
 |i=>i
def ACode.ks (f:Unit→{s:ByteArray}→AV):ACode→ACode
 | .reg l=> .reg (l.map fun x=>⟨x.g,x.i.ks f⟩)
 | .regs l=> .regs (l.map fun x=>⟨x.g,x.i.ks f⟩)
 | .rega l ds=> .rega (l.map fun x=>⟨x.g,x.i.ks f⟩) ds
 | .seq a b=> .seq (a.ks f) (b.ks f)
 | .cond c a b=> .cond (c.ks f) (a.ks f) (b.ks f)
 | .block n a=> .block n (a.ks f)
 | .loop a=> .loop (a.ks f)
 |c=>c
theorem kI0 (n:Nat):Int.ofNat (no_index (OfNat.ofNat n))=OfNat.ofNat n:=rfl
def skF (f:Unit→{s:ByteArray}→AV) (P:Program) (mu:List Nat) (F:Func):ACode:=match aq P mu F with
 |some a=>a.body.ks f
 |none=> .skip
abbrev bK (P:Program) (mu:List Nat) (F:Func) {b:(Unit→{s:ByteArray}→AV)→ACode} (_: ∀f:Unit→{s:ByteArray}→AV,skF f P mu F=b @f:=by intro f;with_unfolding_all (conv=>lhs;reduce;try dsimp only [kI0,Int.reduceNegSucc]);all_goals exact rfl):ACode:=b fun _ {s}=> .str s
abbrev gZ:List AV:= [.int .i64 0,.bool false,.int .i64 0,.str ⟨#[]⟩,.lst .nil 6 [],.lst .nil 7 []]
end
end Go.Proofs.YtbgflifmanjpjaaGreatDoor
