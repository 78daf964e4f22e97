/- Part 20. -/
import Derived.Test.YtbgflifmanjpjaaGreatDoorS19
set_option linter.unusedSimpArgs false
set_option linter.unusedVariables false
namespace Go.Proofs.YtbgflifmanjpjaaGreatDoor
open Go.RowKit
theorem Cu (a b:Nat):(match decide ((b:Int)>(a:Int)) with|true=>(b:Int)|false=>(a:Int))=((max a b:Nat):Int):=by
 by_cases h:a<b
 ·rw [decide_eq_true (by omega)];show (b:Int)=_;omega
 ·rw [decide_eq_false (by omega)];show (a:Int)=_;omega
theorem EH (n:Nat): ∀v:V,v.size≤n→v.size≤2000000000000→AC Tryz.prog 96 [(vA (v))] (.int .i64 v.size):=by
 induction n with
 |zero=>intro v h;have:=v.size_pos;omega
 |succ n ih=>
  intro v hn hsz;have j:=v.size_eq;have r:=br v.l;have C:=aZ v.m;refine kE Tryz.func96 vR vS fun E P=> ?_
  refine kW ?_;refine aJ (fun k:Nat=>(ar [(1,.ptr 1 0),(3,.int .i64 ((1+aK (v.l.take k):Nat):Int)),(9,.lst .any 6 (aL v.l)),(10,.int .i64 (aL v.l).length),(11,.int .i64 k)],⟨ag [(1,(vC (v)),false)],fun _=>0⟩)) (fun k=>k≤v.l.length) (fun k=>v.l.length-k) 0 (by omega) (wO ⟨kI,kI,kI,kI,kI,trivial⟩ ⟨kJ,trivial⟩ rfl rfl) fun k I=> ?_
  refine kW ?_;refine kC (fun hb=> ?_) fun hb=> ?_
  ·have g:k<v.l.length:=by simpa [aB] using hb
   obtain ⟨x,hg⟩: ∃x,v.l[k]? =some x:=⟨_,gA1 g⟩
   have J:=ed hg;have p:=cn v.l (k+1);refine kW ?_;refine kP [.c (vC (x))] ?_ ?_
   ·((repeat' apply aI)<;>first|exact kD|(intro i;refine ⟨?_,kG⟩;(repeat' apply aI)<;>first|exact kD|skip)|skip)
    ·exact dh hg
   refine kW ?_;refine kP [.v (.int .i64 x.size)] ?_ ?_
   ·((repeat' apply aI)<;>first|exact kD|(intro i;refine ⟨?_,kG⟩;(repeat' apply aI)<;>first|exact kD|skip)|skip)
    ·exact ih x (by omega) (by omega)
   refine kW ?_;exact AK.lp ⟨k+1,by omega,wO ⟨kI,kU,kI,kI,kU,trivial⟩ ⟨kJ,trivial⟩ rfl rfl,by omega⟩
  ·have g:k=v.l.length:=by have:v.l.length≤k:=by simpa [aB] using hb
                           omega
   subst g;rw [List.take_length];refine AK.exit rfl ?_;refine kW ?_;refine aJ (fun k:Nat=>(ar [(1,.ptr 1 0),(3,.int .i64 ((1+aK v.l+aA (v.m.take k):Nat):Int)),(21,.lst .any 7 (am v.m)),(22,.int .i64 (am v.m).length),(23,.int .i64 k)],⟨ag [(1,(vC (v)),false)],fun _=>0⟩)) (fun k=>k≤v.m.length) (fun k=>v.m.length-k) 0 (by omega) (wO ⟨kI,kI,kI,kI,kI,trivial⟩ ⟨kJ,trivial⟩ rfl rfl) fun k I=> ?_
   refine kW ?_;refine kC (fun hb=> ?_) fun hb=> ?_
   ·have g:k<v.m.length:=by simpa [ak] using hb
    obtain ⟨⟨y,x⟩,hg⟩: ∃x,v.m[k]? =some x:=⟨_,gA1 g⟩
    have J:=ee hg;have p:=bV v.m (k+1);refine kW ?_;refine kP [.c (.str y::(vC (x)))] ?_ ?_
    ·((repeat' apply aI)<;>first|exact kD|(intro i;refine ⟨?_,kG⟩;(repeat' apply aI)<;>first|exact kD|skip)|skip)
     ·exact aV hg
    refine kW ?_;refine kP [.v (.int .i64 x.size)] ?_ ?_
    ·((repeat' apply aI)<;>first|exact kD|(intro i;refine ⟨?_,kG⟩;(repeat' apply aI)<;>first|exact kD|skip)|skip)
     ·exact ih x (by omega) (by omega)
    refine kW ?_;exact AK.lp ⟨k+1,by omega,wO ⟨kI,kU,kI,kI,kU,trivial⟩ ⟨kJ,trivial⟩ rfl rfl,by omega⟩
   ·have g:k=v.m.length:=by have:v.m.length≤k:=by simpa [ak] using hb
                            omega
    subst g;rw [List.take_length];refine AK.exit rfl ?_;refine kW ?_;refine aR ⟨_,rfl,?_⟩;rw [j];rfl
theorem Cv (n:Nat): ∀v:V,v.size≤n→v.size≤2000000000000→AC Tryz.prog 95 [(vA (v))] (.int .i64 v.depth):=by
 induction n with
 |zero=>intro v h;have:=v.size_pos;omega
 |succ n ih=>
  intro v hn hsz;have C:=v.size_eq;have j:=v.depth_eq;have I:=v.depth_le_size';have J:=br v.l;have P:=aZ v.m;refine kE Tryz.func95 tc td fun E U=> ?_
  refine kW ?_;refine aJ (fun k:Nat=>(ar [(1,.ptr 1 0),(3,.int .i64 (bU (v.l.take k):Nat)),(9,.lst .any 6 (aL v.l)),(10,.int .i64 (aL v.l).length),(11,.int .i64 k)],⟨ag [(1,(vC (v)),false)],fun _=>0⟩)) (fun k=>k≤v.l.length) (fun k=>v.l.length-k) 0 (by omega) (wO ⟨kI,kI,kI,kI,kI,trivial⟩ ⟨kJ,trivial⟩ rfl rfl) fun k R=> ?_
  refine kW ?_;refine kC (fun hb=> ?_) fun hb=> ?_
  ·have g:k<v.l.length:=by simpa [aB] using hb
   obtain ⟨x,hg⟩: ∃x,v.l[k]? =some x:=⟨_,gA1 g⟩
   have T:=ed hg;have p:=cn v.l (k+1);have r:=so hg;refine kW ?_;refine kP [.c (vC (x))] ?_ ?_
   ·((repeat' apply aI)<;>first|exact kD|(intro i;refine ⟨?_,kG⟩;(repeat' apply aI)<;>first|exact kD|skip)|skip)
    ·exact dh hg
   refine kW ?_;refine kP [.v (.int .i64 x.depth)] ?_ ?_
   ·((repeat' apply aI)<;>first|exact kD|(intro i;refine ⟨?_,kG⟩;(repeat' apply aI)<;>first|exact kD|skip)|skip)
    ·exact ih x (by omega) (by omega)
   refine kW ?_;refine AK.lp ⟨k+1,by omega,wO ⟨kI,⟨_,rfl,.of_eq (congrArg (AV.int _) ?_)⟩,kI,kI,kU,trivial⟩ ⟨kJ,trivial⟩ rfl rfl,by omega⟩;exact (Cu _ _).trans (by rw [r])
  ·have g:k=v.l.length:=by have:v.l.length≤k:=by simpa [aB] using hb
                           omega
   subst g;rw [List.take_length];refine AK.exit rfl ?_;refine kW ?_;refine aJ (fun k:Nat=>(ar [(1,.ptr 1 0),(3,.int .i64 (max (bU v.l) (b7 (v.m.take k)):Nat)),(21,.lst .any 7 (am v.m)),(22,.int .i64 (am v.m).length),(23,.int .i64 k)],⟨ag [(1,(vC (v)),false)],fun _=>0⟩)) (fun k=>k≤v.m.length) (fun k=>v.m.length-k) 0 (by omega) (wO ⟨kI,⟨_,rfl,.of_eq (by simp [b7])⟩,kI,kI,kI,trivial⟩ ⟨kJ,trivial⟩ rfl rfl) fun k R=> ?_
   refine kW ?_;refine kC (fun hb=> ?_) fun hb=> ?_
   ·have g:k<v.m.length:=by simpa [ak] using hb
    obtain ⟨⟨y,x⟩,hg⟩: ∃x,v.m[k]? =some x:=⟨_,gA1 g⟩
    have T:=ee hg;have p:=bV v.m (k+1);have r:=sq hg;refine kW ?_;refine kP [.c (.str y::(vC (x)))] ?_ ?_
    ·((repeat' apply aI)<;>first|exact kD|(intro i;refine ⟨?_,kG⟩;(repeat' apply aI)<;>first|exact kD|skip)|skip)
     ·exact aV hg
    refine kW ?_;refine kP [.v (.int .i64 x.depth)] ?_ ?_
    ·((repeat' apply aI)<;>first|exact kD|(intro i;refine ⟨?_,kG⟩;(repeat' apply aI)<;>first|exact kD|skip)|skip)
     ·exact ih x (by omega) (by omega)
    refine kW ?_;refine AK.lp ⟨k+1,by omega,wO ⟨kI,⟨_,rfl,.of_eq (congrArg (AV.int _) ?_)⟩,kI,kI,kU,trivial⟩ ⟨kJ,trivial⟩ rfl rfl,by omega⟩;exact (Cu _ _).trans (congrArg Int.ofNat (by rw [r];omega))
   ·have g:k=v.m.length:=by have:v.m.length≤k:=by simpa [ak] using hb
                            omega
    subst g;rw [List.take_length];refine AK.exit rfl ?_;refine kW ?_;refine aR ⟨_,rfl,?_⟩;rw [aD (by omega) (by omega),j];rfl
theorem bQ (cs:Array Value) (j:Nat) (b:Bool) (r:j<6) (g:cs[j]? =some (.bool b)) (w:World):(Instr.index 241 (.agg cs) (.int .i64 j)).run Tryz.prog w= .ok (.bool b) w:=by
 have i:((j:Int)<6):=by omega
 have p: ¬6≤j:=by omega
 simp [Instr.index,asIntOf,run_underlying Tryz.underlying241,i,part,Tryz.isAgg4,Tryz.sizeOf4,g,p]
theorem ay {P:Program} {g:Array Oper} {rest:List Oper} {tmps:Array Value} {r:List Deferred} {w:World} {Q:Exit→Act→World→Prop} {d:Option Tmp} {C:TypeId} {ps:String} {I:Array Edge}
  (p q:Tmp) (ty:TypeId) (cs:Array Value) (i u:Value) (J:tmps.getD p undef= .agg cs) (R:tmps.getD q undef=i) (j:(Instr.index ty (.agg cs) i).run P w= .ok u w)
  (h:wpList P g Q rest (({tmps:=tmps,defers:=r}:Act).put d u) w):
  wpList P g Q ({dst:=d,op:= .index ty (.tmp p) (.tmp q),type:=C,pos:=ps,after:=I,guard:=none}::rest) {tmps:=tmps,defers:=r} w:=by
 refine wpList_plain rfl fun K T=> ?_
 have U:({tmps:=tmps,defers:=r}:Act).eval (.tmp p)= .agg cs:=J;have e2:({tmps:=tmps,defers:=r}:Act).eval (.tmp q)=i:=R;unfold Oper.wp execOp;simp only [U,e2,Sem.run_bind,Sem.run_pure,Result.andThen_ok,j];exact T _ _ h
def oI (kind:Int) (g i j p r:Bool) (k:Nat):Bool:=(match k with|1=>g|2=>i|3=>j|4=>p|5=>r|_=>false)&&decide ((k:Int)≠kind)
def tL (kind:Int) (g i j p r:Bool):Nat→Bool
 |0=>true
 |k+1=>tL kind g i j p r k&& !oI kind g i j p r k
theorem Lk {kind:Int} {g i j p r:Bool} {k:Nat} (h:oI kind g i j p r k=true) (n:Nat):tL kind g i j p r (k+1+n)=false:=by
 induction n with
 |zero=>rw [Nat.add_zero,tL,h];simp
 |succ n ih=>rw [←Nat.add_assoc,tL,ih];rfl
theorem JE (kind:Int) (g i j p r:Bool):tL kind g i j p r 6=(!(g&&decide ((1:Int)≠kind))&& !(i&&decide ((2:Int)≠kind))&& !(j&&decide ((3:Int)≠kind))&& !(p&&decide ((4:Int)≠kind))&& !(r&&decide ((5:Int)≠kind))):=by
 simp only [tL,oI,Bool.true_and,Bool.false_and,Bool.not_false];rfl
set_option maxHeartbeats 4000000 in
set_option maxRecDepth 100000 in
theorem Ht (kind:Int) (b:Bool) (n:Int) (s:ByteArray) (A1 A2:Option Addr) (l m c1 c2:Nat) (w:World):
  Calls Tryz.prog 150 #[.agg #[.int .i64 kind,.bool b,.int .i64 n,.string s,.slice A1 l c1,.slice A2 m c2]] w fun e w' =>e= .returned (.bool (tL kind b (n !=0) (!s.toList.isEmpty) (decide (0<l)) (decide (0<m)) 6&&(decide (0≤kind)&&decide (kind≤5))))∧Below w.heap.size w w' :=by
 obtain ⟨R,P⟩: ∃R,(tL kind b (n !=0) (!s.toList.isEmpty) (decide (0<l)) (decide (0<m)) 6&&(decide (0≤kind)&&decide (kind≤5)))=R:=⟨_,rfl⟩
 rw [P]
 go_enter Tryz.func150,Tryz.ntmps150
 go_wp2_with fail
 generalize (n !=0)=U at P⊢;generalize (!s.toList.isEmpty)=b3 at P⊢;generalize (decide (0<l))=b4 at P⊢;generalize (decide (0<m))=b5 at P⊢;have HR:=Lib.hid P;clear P;obtain ⟨W,hW⟩: ∃W:World,W=(w.alloc (.cells #[.int .i64 kind,.bool b,.int .i64 n,.string s,.slice A1 l c1,.slice A2 m c2] 26)).alloc (.cells #[.bool false,.bool b,.bool U,.bool b3,.bool b4,.bool b5] 241):=⟨_,rfl⟩
 have k0:W.cell? ⟨w.heap.size,0,none⟩=some (.int .i64 kind):=by
  rw [hW,World.cell?_alloc_lt _ _ _ (by simp),World.cell?_alloc_at _ _ _ _ rfl];rfl
 have hbW:Below w.heap.size w W:=by
  rw [hW];exact ((Below.refl _ _).alloc (gA4 _) _).alloc (by simp) _
 rw [←hW];have J:=Lib.hid hbW;clear hW hbW
 go_loopw [24] (fun i wr=> ∃k:Nat,k≤6∧i= .int .i64 k∧wr=W∧Hid (tL kind b U b3 b4 b5 k=true)) (fun i _=>6-(intOf i).toNat)
 case atStart=>exact ⟨0,by omega,rfl,rfl,Lib.hid rfl⟩
 case round=>
  obtain ⟨k,hk,rfl,rfl,hT⟩:=hrel;have r:=hT.out;clear hT;have hcs:k=0∨k=1∨k=2∨k=3∨k=4∨k=5∨k=6:=by omega
  have p:k<6→oI kind b U b3 b4 b5 k=false→Hid (tL kind b U b3 b4 b5 (k+1)=true):=fun _ h=>Lib.hid (by rw [tL,r,h];rfl)
  have j:k<6→oI kind b U b3 b4 b5 k=true→R=false:=fun h1 h=>by
   rw [←HR.out];have:=Lk h (5-k);rw [show k+1+(5-k)=6 by omega] at this;rw [this];rfl
  rcases hcs with rfl|rfl|rfl|rfl|rfl|rfl|rfl
  ·have H:=p (by omega) rfl
   clear p j r
   go_wp2_with (refine ay 23 24 241 _ _ (.bool false) rfl rfl (bQ _ 0 false (by omega) rfl _) ?_)
   go_roundw
   case rel=>exact ⟨1,by omega,by go_num,trivial,H⟩
   case measure=>simp [intOf]
  ·cases b with
   |false=>
    have H:=p (by omega) rfl;clear p j r
    go_wp2_with (refine ay 23 24 241 _ _ (.bool false) rfl rfl (bQ _ 1 false (by omega) rfl _) ?_)
    go_roundw
    case rel=>exact ⟨2,by omega,by go_num,trivial,H⟩
    case measure=>simp [intOf]
   |true=>
    by_cases g:(1:Int)=kind
    ·have H:=p (by omega) (by rw [oI];simp [g])
     have C:((1:Int) !=kind)=false:=by simp [g]
     clear p j r g
     go_wp2_with (refine ay 23 24 241 _ _ (.bool true) rfl rfl (bQ _ 1 true (by omega) rfl _) ?_)
     go_roundw
     case rel=>exact ⟨2,by omega,by go_num,trivial,H⟩
     case measure=>simp [intOf]
    ·have H:=j (by omega) (by rw [oI];simp [g])
     have C:((1:Int) !=kind)=true:=by simp [g]
     clear p j r g
     go_wp2_with (refine ay 23 24 241 _ _ (.bool true) rfl rfl (bQ _ 1 true (by omega) rfl _) ?_)
     go_ret
     exact ⟨by rw [H];rfl,J.out⟩
  ·cases U with
   |false=>
    have H:=p (by omega) rfl;clear p j r
    go_wp2_with (refine ay 23 24 241 _ _ (.bool false) rfl rfl (bQ _ 2 false (by omega) rfl _) ?_)
    go_roundw
    case rel=>exact ⟨3,by omega,by go_num,trivial,H⟩
    case measure=>simp [intOf]
   |true=>
    by_cases g:(2:Int)=kind
    ·have H:=p (by omega) (by rw [oI];simp [g])
     have C:((2:Int) !=kind)=false:=by simp [g]
     clear p j r g
     go_wp2_with (refine ay 23 24 241 _ _ (.bool true) rfl rfl (bQ _ 2 true (by omega) rfl _) ?_)
     go_roundw
     case rel=>exact ⟨3,by omega,by go_num,trivial,H⟩
     case measure=>simp [intOf]
    ·have H:=j (by omega) (by rw [oI];simp [g])
     have C:((2:Int) !=kind)=true:=by simp [g]
     clear p j r g
     go_wp2_with (refine ay 23 24 241 _ _ (.bool true) rfl rfl (bQ _ 2 true (by omega) rfl _) ?_)
     go_ret
     exact ⟨by rw [H];rfl,J.out⟩
  ·cases b3 with
   |false=>
    have H:=p (by omega) rfl;clear p j r
    go_wp2_with (refine ay 23 24 241 _ _ (.bool false) rfl rfl (bQ _ 3 false (by omega) rfl _) ?_)
    go_roundw
    case rel=>exact ⟨4,by omega,by go_num,trivial,H⟩
    case measure=>simp [intOf]
   |true=>
    by_cases g:(3:Int)=kind
    ·have H:=p (by omega) (by rw [oI];simp [g])
     have C:((3:Int) !=kind)=false:=by simp [g]
     clear p j r g
     go_wp2_with (refine ay 23 24 241 _ _ (.bool true) rfl rfl (bQ _ 3 true (by omega) rfl _) ?_)
     go_roundw
     case rel=>exact ⟨4,by omega,by go_num,trivial,H⟩
     case measure=>simp [intOf]
    ·have H:=j (by omega) (by rw [oI];simp [g])
     have C:((3:Int) !=kind)=true:=by simp [g]
     clear p j r g
     go_wp2_with (refine ay 23 24 241 _ _ (.bool true) rfl rfl (bQ _ 3 true (by omega) rfl _) ?_)
     go_ret
     exact ⟨by rw [H];rfl,J.out⟩
  ·cases b4 with
   |false=>
    have H:=p (by omega) rfl;clear p j r
    go_wp2_with (refine ay 23 24 241 _ _ (.bool false) rfl rfl (bQ _ 4 false (by omega) rfl _) ?_)
    go_roundw
    case rel=>exact ⟨5,by omega,by go_num,trivial,H⟩
    case measure=>simp [intOf]
   |true=>
    by_cases g:(4:Int)=kind
    ·have H:=p (by omega) (by rw [oI];simp [g])
     have C:((4:Int) !=kind)=false:=by simp [g]
     clear p j r g
     go_wp2_with (refine ay 23 24 241 _ _ (.bool true) rfl rfl (bQ _ 4 true (by omega) rfl _) ?_)
     go_roundw
     case rel=>exact ⟨5,by omega,by go_num,trivial,H⟩
     case measure=>simp [intOf]
    ·have H:=j (by omega) (by rw [oI];simp [g])
     have C:((4:Int) !=kind)=true:=by simp [g]
     clear p j r g
     go_wp2_with (refine ay 23 24 241 _ _ (.bool true) rfl rfl (bQ _ 4 true (by omega) rfl _) ?_)
     go_ret
     exact ⟨by rw [H];rfl,J.out⟩
  ·cases b5 with
   |false=>
    have H:=p (by omega) rfl;clear p j r
    go_wp2_with (refine ay 23 24 241 _ _ (.bool false) rfl rfl (bQ _ 5 false (by omega) rfl _) ?_)
    go_roundw
    case rel=>exact ⟨6,by omega,by go_num,trivial,H⟩
    case measure=>simp [intOf]
   |true=>
    by_cases g:(5:Int)=kind
    ·have H:=p (by omega) (by rw [oI];simp [g])
     have C:((5:Int) !=kind)=false:=by simp [g]
     clear p j r g
     go_wp2_with (refine ay 23 24 241 _ _ (.bool true) rfl rfl (bQ _ 5 true (by omega) rfl _) ?_)
     go_roundw
     case rel=>exact ⟨6,by omega,by go_num,trivial,H⟩
     case measure=>simp [intOf]
    ·have H:=j (by omega) (by rw [oI];simp [g])
     have C:((5:Int) !=kind)=true:=by simp [g]
     clear p j r g
     go_wp2_with (refine ay 23 24 241 _ _ (.bool true) rfl rfl (bQ _ 5 true (by omega) rfl _) ?_)
     go_ret
     exact ⟨by rw [H];rfl,J.out⟩
  ·have I:=HR.out
   rw [r,Bool.true_and] at I;clear p j r HR;by_cases h0:0≤kind
   ·by_cases h5:kind≤5
    ·have hRt:R=true:=by rw [←I];simp [h0,h5]
     clear I
     go_wp2
     go_ret
     exact ⟨by first|rfl|(rw [hRt];rfl),J.out⟩
    ·have T:R=false:=by rw [←I];simp [h5]
     clear I
     go_wp2
     go_ret
     exact ⟨by first|rfl|(rw [T];rfl),J.out⟩
   ·have T:R=false:=by rw [←I];simp [h0]
    clear I
    go_wp2
    go_ret
    exact ⟨by first|rfl|(rw [T];rfl),J.out⟩
theorem Hu (kind:Int) (b:Bool) (n:Int) (s:ByteArray) (l m:Nat):(tL kind b (n !=0) (!s.toList.isEmpty) (decide (0<l)) (decide (0<m)) 6&&(decide (0≤kind)&&decide (kind≤5)))= !lL kind b n s l m:=by
 have J:(!s.toList.isEmpty)=decide (s≠mz):=by
  by_cases h:s=mz
  ·subst h
   rw [show mz.toList= [] from Lib.toList_data _];simp
  ·rw [decide_eq_true h]
   have P: ¬s.size=0:=fun e=>h (ByteArray.ext (Array.eq_empty_of_size_eq_zero e))
   cases hl:s.toList with
   |nil=>
    exfalso;rw [Lib.toList_data] at hl;have:s.data.toList.length=s.size:=rfl;rw [hl] at this;exact P this.symm
   |cons a l=>rfl
 rw [JE,J];unfold lL;rw [Bool.eq_iff_iff];simp only [gA9,Bool.not_eq_true',Bool.and_eq_false_iff,Bool.or_eq_false_iff,gB0,decide_eq_false_iff_not,bne_iff_ne,ne_eq,bne_eq_false_iff_eq,Decidable.not_not,Nat.not_lt,Int.not_lt];constructor
 ·rintro ⟨⟨⟨⟨⟨g,i⟩,j⟩,p⟩,r⟩,C,I⟩
  exact ⟨⟨⟨⟨⟨⟨C,I⟩,g.symm.imp (fun e=>e.symm) id⟩,i.symm.imp (fun e=>e.symm) id⟩,j.symm.imp (fun e=>e.symm) id⟩,p.symm.imp (fun e=>e.symm) id⟩,r.symm.imp (fun e=>e.symm) id⟩
 ·rintro ⟨⟨⟨⟨⟨⟨C,I⟩,g⟩,i⟩,j⟩,p⟩,r⟩
  exact ⟨⟨⟨⟨⟨g.symm.imp id (fun e=>e.symm),i.symm.imp id (fun e=>e.symm)⟩,j.symm.imp id (fun e=>e.symm)⟩,p.symm.imp id (fun e=>e.symm)⟩,r.symm.imp id (fun e=>e.symm)⟩,C,I⟩
theorem Ll (v:V):AC Tryz.prog 150 [(vA (v))] (.bool (!lL v.kind v.b v.n v.s v.l.length v.m.length)):=by
 refine ⟨by kernel_rfl,fun σ w vs j hr hg=> ?_⟩;obtain ⟨v1,rfl⟩:=List.length_eq_one_iff.1 hr.1;have C:RelP σ v1 ((vA (v))):=hr.2 0 v1 _ rfl rfl;obtain ⟨cs,rfl,i⟩:=C;have hlen:=i.1
 obtain ⟨I,J,P,R,T,U,rfl⟩: ∃a b c d e f,cs= [a,b,c,d,e,f]:=by
  rcases cs with _|⟨a,_|⟨b,_|⟨c,_|⟨d,_|⟨e,_|⟨f,_|⟨g,l⟩⟩⟩⟩⟩⟩⟩<;>simp at hlen
  exact ⟨a,b,c,d,e,f,rfl⟩
 have r0:=i.2 0 I (.int .i64 v.kind) rfl rfl;have r1:=i.2 1 J (.bool v.b) rfl rfl;have r2:=i.2 2 P (.int .i64 v.n) rfl rfl;have r3:=i.2 3 R (.str v.s) rfl rfl;have r4:=i.2 4 T (.lst .any 6 (aL v.l)) rfl rfl;have r5:=i.2 5 U (.lst .any 7 (am v.m)) rfl rfl;cases r0;cases r1;cases r2;cases r3;obtain ⟨A1,c1,b1,o1,n1,rfl,_⟩:=cd r4;obtain ⟨A2,c2,b2,o2,n2,rfl,_⟩:=cd r5;have h:=Ht v.kind v.b v.n v.s A1 A2 (aL v.l).length (am v.m).length c1 c2 w;rw [Hu,aB,ak] at h;rw [aB,ak];refine h.mono ?_;rintro e w' ⟨rfl,hb⟩;exact ⟨σ,_,rfl,Ext.refl _ _,fun b q v r=>(hb.cell (p:=⟨b,q,none⟩) (World.block_lt_of_cell? w _ (j _ _ _ r))).trans (j _ _ _ r),hb,.bool _⟩
theorem ws (s:ByteArray) (p:s.size≤140737488355328):AC Tryz.prog 151 [.str s] (.bool (dE s)):=by
 refine kE Tryz.func151 vJ vK fun E r=> ?_
 refine kW ?_;refine aJ (fun k:Nat=>(ar [(0,.str s),(6,.int .i64 s.size),(7,.int .i64 k)],⟨ag [],fun _=>0⟩)) (fun k=>k≤s.size∧sr okT s k) (fun k=>s.size-k) 0 ⟨by omega,jS _ _⟩ (wO ⟨kI,kI,kI,trivial⟩ trivial rfl rfl) fun k ⟨C,i⟩=> ?_
 refine kW ?_;refine kC (fun hb=> ?_) fun hb=> ?_
 ·have g:k<s.size:=by simpa using hb
  refine kW ?_;refine kQ [] ?_;rw [show s.data.getD (k:Int).toNat 0=s[k] from io g];refine kW ?_;refine kQ [] ?_;refine kC (fun hb=> ?_) fun hb=> ?_
  ·refine kW ?_
   refine aR ⟨_,rfl,?_⟩
   have j:okT s[k]=false:=by
    simp only [Bool.or_eq_true,gA9,Bool.not_eq_true',gB0,decide_eq_false_iff_not] at hb;simp only [okT,Bool.or_eq_false_iff,Bool.and_eq_false_iff,decide_eq_false_iff_not,beq_eq_false_iff_ne,ne_eq];omega
   rw [dE,jU g j];rfl
  ·have ht:okT s[k]=true:=by
    simp only [Bool.or_eq_false_iff,Bool.and_eq_false_iff,Bool.not_eq_false',gB0,decide_eq_false_iff_not] at hb;simp only [okT,Bool.or_eq_true,gA9,gB0,beq_iff_eq];omega
   refine kW ?_;exact AK.lp ⟨k+1,⟨by omega,jT i g ht⟩,wO ⟨kI,kI,kU,trivial⟩ trivial rfl rfl,by omega⟩
 ·have g:k=s.size:=by have:s.size≤k:=by simpa using hb
                      omega
  subst g;refine AK.exit rfl ?_;refine kW ?_;refine aR ⟨_,rfl,?_⟩;show AV.bool _=AV.bool _;refine congrArg AV.bool ?_;rw [dE,mA i,Bool.eq_iff_iff];simp
  try omega
end Go.Proofs.YtbgflifmanjpjaaGreatDoor
