/- Part 23. -/
import Derived.Test.YtbgflifmanjpjaaGreatDoorS22
set_option linter.unusedSimpArgs false
set_option linter.unusedVariables false
namespace Go.Proofs.YtbgflifmanjpjaaGreatDoor
section
open Go.RowKit
theorem Ba (a b:Nat):(match decide ((b:Int)>(a:Int)) with|true=>(b:Int)|false=>(a:Int))=((max a b:Nat):Int):=by
 by_cases h:a<b
 ·rw [decide_eq_true (by omega)];show (b:Int)=_;omega
 ·rw [decide_eq_false (by omega)];show (a:Int)=_;omega
theorem Do (n:Nat): ∀v:V,v.size≤n→v.size≤2000000000000→AC Tryz.prog 96 [(vA (v))] (.int .i64 v.size):=by
 induction n with
 |zero=>intro v h;have:=v.size_pos;omega
 |succ n ih=>
  intro v hn hsz;have j:=v.size_eq;have r:=bW v.l;have C:=bz v.m;refine kE Tryz.func96 uI uJ fun E P=> ?_
  refine kW ?_;refine aJ (fun k:Nat=>(ax [(1,.ptr 1 0),(3,.int .i64 ((1+aO (v.l.take k):Nat):Int)),(9,.lst .any 6 (aM v.l)),(10,.int .i64 (aM v.l).length),(11,.int .i64 k)],⟨ah [(1,(vC (v)),false)],fun _=>0⟩)) (fun k=>k≤v.l.length) (fun k=>v.l.length-k) 0 (by omega) (wO ⟨kI,kI,kI,kI,kI,trivial⟩ ⟨kJ,trivial⟩ rfl rfl) fun k I=> ?_
  refine kW ?_;refine kC (fun hb=> ?_) fun hb=> ?_
  ·have g:k<v.l.length:=by simpa [aQ] using hb
   obtain ⟨x,hg⟩: ∃x,v.l[k]? =some x:=⟨_,gA1 g⟩
   have J:=jr hg;have p:=eS v.l (k+1);refine kW ?_;refine kP [.c (vC (x))] ?_ ?_
   ·((repeat' apply aI)<;>first|exact kD|(intro i;refine ⟨?_,kG⟩;(repeat' apply aI)<;>first|exact kD|skip)|skip)
    ·exact fb hg
   refine kW ?_;refine kP [.v (.int .i64 x.size)] ?_ ?_
   ·((repeat' apply aI)<;>first|exact kD|(intro i;refine ⟨?_,kG⟩;(repeat' apply aI)<;>first|exact kD|skip)|skip)
    ·exact ih x (by omega) (by omega)
   refine kW ?_;exact AK.lp ⟨k+1,by omega,wO ⟨kI,kU,kI,kI,kU,trivial⟩ ⟨kJ,trivial⟩ rfl rfl,by omega⟩
  ·have g:k=v.l.length:=by have:v.l.length≤k:=by simpa [aQ] using hb
                           omega
   subst g;rw [List.take_length];refine AK.exit rfl ?_;refine kW ?_;refine aJ (fun k:Nat=>(ax [(1,.ptr 1 0),(3,.int .i64 ((1+aO v.l+aF (v.m.take k):Nat):Int)),(21,.lst .any 7 (am v.m)),(22,.int .i64 (am v.m).length),(23,.int .i64 k)],⟨ah [(1,(vC (v)),false)],fun _=>0⟩)) (fun k=>k≤v.m.length) (fun k=>v.m.length-k) 0 (by omega) (wO ⟨kI,kI,kI,kI,kI,trivial⟩ ⟨kJ,trivial⟩ rfl rfl) fun k I=> ?_
   refine kW ?_;refine kC (fun hb=> ?_) fun hb=> ?_
   ·have g:k<v.m.length:=by simpa [au] using hb
    obtain ⟨⟨y,x⟩,hg⟩: ∃x,v.m[k]? =some x:=⟨_,gA1 g⟩
    have J:=js hg;have p:=dD v.m (k+1);refine kW ?_;refine kP [.c (.str y::(vC (x)))] ?_ ?_
    ·((repeat' apply aI)<;>first|exact kD|(intro i;refine ⟨?_,kG⟩;(repeat' apply aI)<;>first|exact kD|skip)|skip)
     ·exact bm hg
    refine kW ?_;refine kP [.v (.int .i64 x.size)] ?_ ?_
    ·((repeat' apply aI)<;>first|exact kD|(intro i;refine ⟨?_,kG⟩;(repeat' apply aI)<;>first|exact kD|skip)|skip)
     ·exact ih x (by omega) (by omega)
    refine kW ?_;exact AK.lp ⟨k+1,by omega,wO ⟨kI,kU,kI,kI,kU,trivial⟩ ⟨kJ,trivial⟩ rfl rfl,by omega⟩
   ·have g:k=v.m.length:=by have:v.m.length≤k:=by simpa [au] using hb
                            omega
    subst g;rw [List.take_length];refine AK.exit rfl ?_;refine kW ?_;refine aR ⟨_,rfl,?_⟩;rw [j];rfl
theorem Bb (n:Nat): ∀v:V,v.size≤n→v.size≤2000000000000→AC Tryz.prog 95 [(vA (v))] (.int .i64 v.depth):=by
 induction n with
 |zero=>intro v h;have:=v.size_pos;omega
 |succ n ih=>
  intro v hn hsz;have C:=v.size_eq;have j:=v.depth_eq;have I:=v.depth_le_size';have J:=bW v.l;have P:=bz v.m;refine kE Tryz.func95 r9 sa fun E U=> ?_
  refine kW ?_;refine aJ (fun k:Nat=>(ax [(1,.ptr 1 0),(3,.int .i64 (dl (v.l.take k):Nat)),(9,.lst .any 6 (aM v.l)),(10,.int .i64 (aM v.l).length),(11,.int .i64 k)],⟨ah [(1,(vC (v)),false)],fun _=>0⟩)) (fun k=>k≤v.l.length) (fun k=>v.l.length-k) 0 (by omega) (wO ⟨kI,kI,kI,kI,kI,trivial⟩ ⟨kJ,trivial⟩ rfl rfl) fun k R=> ?_
  refine kW ?_;refine kC (fun hb=> ?_) fun hb=> ?_
  ·have g:k<v.l.length:=by simpa [aQ] using hb
   obtain ⟨x,hg⟩: ∃x,v.l[k]? =some x:=⟨_,gA1 g⟩
   have T:=jr hg;have p:=eS v.l (k+1);have r:=Am hg;refine kW ?_;refine kP [.c (vC (x))] ?_ ?_
   ·((repeat' apply aI)<;>first|exact kD|(intro i;refine ⟨?_,kG⟩;(repeat' apply aI)<;>first|exact kD|skip)|skip)
    ·exact fb hg
   refine kW ?_;refine kP [.v (.int .i64 x.depth)] ?_ ?_
   ·((repeat' apply aI)<;>first|exact kD|(intro i;refine ⟨?_,kG⟩;(repeat' apply aI)<;>first|exact kD|skip)|skip)
    ·exact ih x (by omega) (by omega)
   refine kW ?_;refine AK.lp ⟨k+1,by omega,wO ⟨kI,⟨_,rfl,.of_eq (congrArg (AV.int _) ?_)⟩,kI,kI,kU,trivial⟩ ⟨kJ,trivial⟩ rfl rfl,by omega⟩;exact (Ba _ _).trans (by rw [r])
  ·have g:k=v.l.length:=by have:v.l.length≤k:=by simpa [aQ] using hb
                           omega
   subst g;rw [List.take_length];refine AK.exit rfl ?_;refine kW ?_;refine aJ (fun k:Nat=>(ax [(1,.ptr 1 0),(3,.int .i64 (max (dl v.l) (dm (v.m.take k)):Nat)),(21,.lst .any 7 (am v.m)),(22,.int .i64 (am v.m).length),(23,.int .i64 k)],⟨ah [(1,(vC (v)),false)],fun _=>0⟩)) (fun k=>k≤v.m.length) (fun k=>v.m.length-k) 0 (by omega) (wO ⟨kI,⟨_,rfl,.of_eq (by simp [dm])⟩,kI,kI,kI,trivial⟩ ⟨kJ,trivial⟩ rfl rfl) fun k R=> ?_
   refine kW ?_;refine kC (fun hb=> ?_) fun hb=> ?_
   ·have g:k<v.m.length:=by simpa [au] using hb
    obtain ⟨⟨y,x⟩,hg⟩: ∃x,v.m[k]? =some x:=⟨_,gA1 g⟩
    have T:=js hg;have p:=dD v.m (k+1);have r:=An hg;refine kW ?_;refine kP [.c (.str y::(vC (x)))] ?_ ?_
    ·((repeat' apply aI)<;>first|exact kD|(intro i;refine ⟨?_,kG⟩;(repeat' apply aI)<;>first|exact kD|skip)|skip)
     ·exact bm hg
    refine kW ?_;refine kP [.v (.int .i64 x.depth)] ?_ ?_
    ·((repeat' apply aI)<;>first|exact kD|(intro i;refine ⟨?_,kG⟩;(repeat' apply aI)<;>first|exact kD|skip)|skip)
     ·exact ih x (by omega) (by omega)
    refine kW ?_;refine AK.lp ⟨k+1,by omega,wO ⟨kI,⟨_,rfl,.of_eq (congrArg (AV.int _) ?_)⟩,kI,kI,kU,trivial⟩ ⟨kJ,trivial⟩ rfl rfl,by omega⟩;exact (Ba _ _).trans (congrArg Int.ofNat (by rw [r];omega))
   ·have g:k=v.m.length:=by have:v.m.length≤k:=by simpa [au] using hb
                            omega
    subst g;rw [List.take_length];refine AK.exit rfl ?_;refine kW ?_;refine aR ⟨_,rfl,?_⟩;rw [aD (by omega) (by omega),j];rfl
theorem bF (cs:Array Value) (j:Nat) (b:Bool) (r:j<6) (g:cs[j]? =some (.bool b)) (w:World):(Instr.index 241 (.agg cs) (.int .i64 j)).run Tryz.prog w= .ok (.bool b) w:=by
 have i:((j:Int)<6):=by omega
 have p: ¬6≤j:=by omega
 simp [Instr.index,asIntOf,run_underlying Tryz.underlying241,i,part,Tryz.isAgg4,Tryz.sizeOf4,g,p]
theorem aB {P:Program} {g:Array Oper} {rest:List Oper} {tmps:Array Value} {r:List Deferred} {w:World} {Q:Exit→Act→World→Prop} {d:Option Tmp} {C:TypeId} {ps:String} {I:Array Edge}
  (p q:Tmp) (ty:TypeId) (cs:Array Value) (i u:Value) (J:tmps.getD p undef= .agg cs) (R:tmps.getD q undef=i) (j:(Instr.index ty (.agg cs) i).run P w= .ok u w)
  (h:wpList P g Q rest (({tmps:=tmps,defers:=r}:Act).put d u) w):
  wpList P g Q ({dst:=d,op:= .index ty (.tmp p) (.tmp q),type:=C,pos:=ps,after:=I,guard:=none}::rest) {tmps:=tmps,defers:=r} w:=by
 refine wpList_plain rfl fun K T=> ?_
 have U:({tmps:=tmps,defers:=r}:Act).eval (.tmp p)= .agg cs:=J;have e2:({tmps:=tmps,defers:=r}:Act).eval (.tmp q)=i:=R;unfold Oper.wp execOp;simp only [U,e2,Sem.run_bind,Sem.run_pure,Result.andThen_ok,j];exact T _ _ h
def nY (kind:Int) (g i j p r:Bool) (k:Nat):Bool:=(match k with|1=>g|2=>i|3=>j|4=>p|5=>r|_=>false)&&decide ((k:Int)≠kind)
def sC (kind:Int) (g i j p r:Bool):Nat→Bool
 |0=>true
 |k+1=>sC kind g i j p r k&& !nY kind g i j p r k
theorem Jn {kind:Int} {g i j p r:Bool} {k:Nat} (h:nY kind g i j p r k=true) (n:Nat):sC kind g i j p r (k+1+n)=false:=by
 induction n with
 |zero=>rw [Nat.add_zero,sC,h];simp
 |succ n ih=>rw [←Nat.add_assoc,sC,ih];rfl
theorem HG (kind:Int) (g i j p r:Bool):sC kind g i j p r 6=(!(g&&decide ((1:Int)≠kind))&& !(i&&decide ((2:Int)≠kind))&& !(j&&decide ((3:Int)≠kind))&& !(p&&decide ((4:Int)≠kind))&& !(r&&decide ((5:Int)≠kind))):=by
 simp only [sC,nY,Bool.true_and,Bool.false_and,Bool.not_false];rfl
set_option maxHeartbeats 4000000 in
set_option maxRecDepth 100000 in
theorem FF (kind:Int) (b:Bool) (n:Int) (s:ByteArray) (A1 A2:Option Addr) (l m c1 c2:Nat) (w:World):
  Calls Tryz.prog 150 #[.agg #[.int .i64 kind,.bool b,.int .i64 n,.string s,.slice A1 l c1,.slice A2 m c2]] w fun e w' =>e= .returned (.bool (sC kind b (n !=0) (!s.toList.isEmpty) (decide (0<l)) (decide (0<m)) 6&&(decide (0≤kind)&&decide (kind≤5))))∧Below w.heap.size w w' :=by
 obtain ⟨R,P⟩: ∃R,(sC kind b (n !=0) (!s.toList.isEmpty) (decide (0<l)) (decide (0<m)) 6&&(decide (0≤kind)&&decide (kind≤5)))=R:=⟨_,rfl⟩
 rw [P]
 go_enter Tryz.func150,Tryz.ntmps150
 go_wp2_with fail
 generalize (n !=0)=U at P⊢;generalize (!s.toList.isEmpty)=b3 at P⊢;generalize (decide (0<l))=b4 at P⊢;generalize (decide (0<m))=b5 at P⊢;have HR:=Lib.hid P;clear P;obtain ⟨W,hW⟩: ∃W:World,W=(w.alloc (.cells #[.int .i64 kind,.bool b,.int .i64 n,.string s,.slice A1 l c1,.slice A2 m c2] 26)).alloc (.cells #[.bool false,.bool b,.bool U,.bool b3,.bool b4,.bool b5] 241):=⟨_,rfl⟩
 have k0:W.cell? ⟨w.heap.size,0,none⟩=some (.int .i64 kind):=by
  rw [hW,World.cell?_alloc_lt _ _ _ (by simp),World.cell?_alloc_at _ _ _ _ rfl];rfl
 have hbW:Below w.heap.size w W:=by
  rw [hW];exact ((Below.refl _ _).alloc (gA4 _) _).alloc (by simp) _
 rw [←hW];have J:=Lib.hid hbW;clear hW hbW
 go_loopw [24] (fun i wr=> ∃k:Nat,k≤6∧i= .int .i64 k∧wr=W∧Hid (sC kind b U b3 b4 b5 k=true)) (fun i _=>6-(intOf i).toNat)
 case atStart=>exact ⟨0,by omega,rfl,rfl,Lib.hid rfl⟩
 case round=>
  obtain ⟨k,hk,rfl,rfl,hT⟩:=hrel;have r:=hT.out;clear hT;have hcs:k=0∨k=1∨k=2∨k=3∨k=4∨k=5∨k=6:=by omega
  have p:k<6→nY kind b U b3 b4 b5 k=false→Hid (sC kind b U b3 b4 b5 (k+1)=true):=fun _ h=>Lib.hid (by rw [sC,r,h];rfl)
  have j:k<6→nY kind b U b3 b4 b5 k=true→R=false:=fun h1 h=>by
   rw [←HR.out];have:=Jn h (5-k);rw [show k+1+(5-k)=6 by omega] at this;rw [this];rfl
  rcases hcs with rfl|rfl|rfl|rfl|rfl|rfl|rfl
  ·have H:=p (by omega) rfl
   clear p j r
   go_wp2_with (refine aB 23 24 241 _ _ (.bool false) rfl rfl (bF _ 0 false (by omega) rfl _) ?_)
   go_roundw
   case rel=>exact ⟨1,by omega,by go_num,trivial,H⟩
   case measure=>simp [intOf]
  ·cases b with
   |false=>
    have H:=p (by omega) rfl;clear p j r
    go_wp2_with (refine aB 23 24 241 _ _ (.bool false) rfl rfl (bF _ 1 false (by omega) rfl _) ?_)
    go_roundw
    case rel=>exact ⟨2,by omega,by go_num,trivial,H⟩
    case measure=>simp [intOf]
   |true=>
    by_cases g:(1:Int)=kind
    ·have H:=p (by omega) (by rw [nY];simp [g])
     have C:((1:Int) !=kind)=false:=by simp [g]
     clear p j r g
     go_wp2_with (refine aB 23 24 241 _ _ (.bool true) rfl rfl (bF _ 1 true (by omega) rfl _) ?_)
     go_roundw
     case rel=>exact ⟨2,by omega,by go_num,trivial,H⟩
     case measure=>simp [intOf]
    ·have H:=j (by omega) (by rw [nY];simp [g])
     have C:((1:Int) !=kind)=true:=by simp [g]
     clear p j r g
     go_wp2_with (refine aB 23 24 241 _ _ (.bool true) rfl rfl (bF _ 1 true (by omega) rfl _) ?_)
     go_ret
     exact ⟨by rw [H];rfl,J.out⟩
  ·cases U with
   |false=>
    have H:=p (by omega) rfl;clear p j r
    go_wp2_with (refine aB 23 24 241 _ _ (.bool false) rfl rfl (bF _ 2 false (by omega) rfl _) ?_)
    go_roundw
    case rel=>exact ⟨3,by omega,by go_num,trivial,H⟩
    case measure=>simp [intOf]
   |true=>
    by_cases g:(2:Int)=kind
    ·have H:=p (by omega) (by rw [nY];simp [g])
     have C:((2:Int) !=kind)=false:=by simp [g]
     clear p j r g
     go_wp2_with (refine aB 23 24 241 _ _ (.bool true) rfl rfl (bF _ 2 true (by omega) rfl _) ?_)
     go_roundw
     case rel=>exact ⟨3,by omega,by go_num,trivial,H⟩
     case measure=>simp [intOf]
    ·have H:=j (by omega) (by rw [nY];simp [g])
     have C:((2:Int) !=kind)=true:=by simp [g]
     clear p j r g
     go_wp2_with (refine aB 23 24 241 _ _ (.bool true) rfl rfl (bF _ 2 true (by omega) rfl _) ?_)
     go_ret
     exact ⟨by rw [H];rfl,J.out⟩
  ·cases b3 with
   |false=>
    have H:=p (by omega) rfl;clear p j r
    go_wp2_with (refine aB 23 24 241 _ _ (.bool false) rfl rfl (bF _ 3 false (by omega) rfl _) ?_)
    go_roundw
    case rel=>exact ⟨4,by omega,by go_num,trivial,H⟩
    case measure=>simp [intOf]
   |true=>
    by_cases g:(3:Int)=kind
    ·have H:=p (by omega) (by rw [nY];simp [g])
     have C:((3:Int) !=kind)=false:=by simp [g]
     clear p j r g
     go_wp2_with (refine aB 23 24 241 _ _ (.bool true) rfl rfl (bF _ 3 true (by omega) rfl _) ?_)
     go_roundw
     case rel=>exact ⟨4,by omega,by go_num,trivial,H⟩
     case measure=>simp [intOf]
    ·have H:=j (by omega) (by rw [nY];simp [g])
     have C:((3:Int) !=kind)=true:=by simp [g]
     clear p j r g
     go_wp2_with (refine aB 23 24 241 _ _ (.bool true) rfl rfl (bF _ 3 true (by omega) rfl _) ?_)
     go_ret
     exact ⟨by rw [H];rfl,J.out⟩
  ·cases b4 with
   |false=>
    have H:=p (by omega) rfl;clear p j r
    go_wp2_with (refine aB 23 24 241 _ _ (.bool false) rfl rfl (bF _ 4 false (by omega) rfl _) ?_)
    go_roundw
    case rel=>exact ⟨5,by omega,by go_num,trivial,H⟩
    case measure=>simp [intOf]
   |true=>
    by_cases g:(4:Int)=kind
    ·have H:=p (by omega) (by rw [nY];simp [g])
     have C:((4:Int) !=kind)=false:=by simp [g]
     clear p j r g
     go_wp2_with (refine aB 23 24 241 _ _ (.bool true) rfl rfl (bF _ 4 true (by omega) rfl _) ?_)
     go_roundw
     case rel=>exact ⟨5,by omega,by go_num,trivial,H⟩
     case measure=>simp [intOf]
    ·have H:=j (by omega) (by rw [nY];simp [g])
     have C:((4:Int) !=kind)=true:=by simp [g]
     clear p j r g
     go_wp2_with (refine aB 23 24 241 _ _ (.bool true) rfl rfl (bF _ 4 true (by omega) rfl _) ?_)
     go_ret
     exact ⟨by rw [H];rfl,J.out⟩
  ·cases b5 with
   |false=>
    have H:=p (by omega) rfl;clear p j r
    go_wp2_with (refine aB 23 24 241 _ _ (.bool false) rfl rfl (bF _ 5 false (by omega) rfl _) ?_)
    go_roundw
    case rel=>exact ⟨6,by omega,by go_num,trivial,H⟩
    case measure=>simp [intOf]
   |true=>
    by_cases g:(5:Int)=kind
    ·have H:=p (by omega) (by rw [nY];simp [g])
     have C:((5:Int) !=kind)=false:=by simp [g]
     clear p j r g
     go_wp2_with (refine aB 23 24 241 _ _ (.bool true) rfl rfl (bF _ 5 true (by omega) rfl _) ?_)
     go_roundw
     case rel=>exact ⟨6,by omega,by go_num,trivial,H⟩
     case measure=>simp [intOf]
    ·have H:=j (by omega) (by rw [nY];simp [g])
     have C:((5:Int) !=kind)=true:=by simp [g]
     clear p j r g
     go_wp2_with (refine aB 23 24 241 _ _ (.bool true) rfl rfl (bF _ 5 true (by omega) rfl _) ?_)
     go_ret
     exact ⟨by rw [H];rfl,J.out⟩
  ·have I:=HR.out
   rw [r,Bool.true_and] at I;clear p j r HR;by_cases h0:0≤kind
   ·by_cases h5:kind≤5
    ·have hRt:R=true:=by rw [←I];simp [h0,h5]
     clear I
     go_wp2
     go_ret
     exact ⟨by first|rfl|(rw [hRt];rfl),J.out⟩
    ·have T:R=false:=by rw [←I];simp [h5]
     clear I
     go_wp2
     go_ret
     exact ⟨by first|rfl|(rw [T];rfl),J.out⟩
   ·have T:R=false:=by rw [←I];simp [h0]
    clear I
    go_wp2
    go_ret
    exact ⟨by first|rfl|(rw [T];rfl),J.out⟩
theorem FG (kind:Int) (b:Bool) (n:Int) (s:ByteArray) (l m:Nat):(sC kind b (n !=0) (!s.toList.isEmpty) (decide (0<l)) (decide (0<m)) 6&&(decide (0≤kind)&&decide (kind≤5)))= !nF kind b n s l m:=by
 have J:(!s.toList.isEmpty)=decide (s≠oT):=by
  by_cases h:s=oT
  ·subst h
   rw [show oT.toList= [] from Lib.toList_data _];simp
  ·rw [decide_eq_true h]
   have P: ¬s.size=0:=fun e=>h (ByteArray.ext (Array.eq_empty_of_size_eq_zero e))
   cases hl:s.toList with
   |nil=>
    exfalso;rw [Lib.toList_data] at hl;have:s.data.toList.length=s.size:=rfl;rw [hl] at this;exact P this.symm
   |cons a l=>rfl
 rw [HG,J];unfold nF;rw [Bool.eq_iff_iff];simp only [gA9,Bool.not_eq_true',Bool.and_eq_false_iff,Bool.or_eq_false_iff,gB0,decide_eq_false_iff_not,bne_iff_ne,ne_eq,bne_eq_false_iff_eq,Decidable.not_not,Nat.not_lt,Int.not_lt];constructor
 ·rintro ⟨⟨⟨⟨⟨g,i⟩,j⟩,p⟩,r⟩,C,I⟩
  exact ⟨⟨⟨⟨⟨⟨C,I⟩,g.symm.imp (fun e=>e.symm) id⟩,i.symm.imp (fun e=>e.symm) id⟩,j.symm.imp (fun e=>e.symm) id⟩,p.symm.imp (fun e=>e.symm) id⟩,r.symm.imp (fun e=>e.symm) id⟩
 ·rintro ⟨⟨⟨⟨⟨⟨C,I⟩,g⟩,i⟩,j⟩,p⟩,r⟩
  exact ⟨⟨⟨⟨⟨g.symm.imp id (fun e=>e.symm),i.symm.imp id (fun e=>e.symm)⟩,j.symm.imp id (fun e=>e.symm)⟩,p.symm.imp id (fun e=>e.symm)⟩,r.symm.imp id (fun e=>e.symm)⟩,C,I⟩
theorem Jo (v:V):AC Tryz.prog 150 [(vA (v))] (.bool (!nF v.kind v.b v.n v.s v.l.length v.m.length)):=by
 refine ⟨by kernel_rfl,fun σ w vs j hr hg=> ?_⟩;obtain ⟨v1,rfl⟩:=List.length_eq_one_iff.1 hr.1;have C:RelP σ v1 ((vA (v))):=hr.2 0 v1 _ rfl rfl;obtain ⟨cs,rfl,i⟩:=C;have hlen:=i.1
 obtain ⟨I,J,P,R,T,U,rfl⟩: ∃a b c d e f,cs= [a,b,c,d,e,f]:=by
  rcases cs with _|⟨a,_|⟨b,_|⟨c,_|⟨d,_|⟨e,_|⟨f,_|⟨g,l⟩⟩⟩⟩⟩⟩⟩<;>simp at hlen
  exact ⟨a,b,c,d,e,f,rfl⟩
 have r0:=i.2 0 I (.int .i64 v.kind) rfl rfl;have r1:=i.2 1 J (.bool v.b) rfl rfl;have r2:=i.2 2 P (.int .i64 v.n) rfl rfl;have r3:=i.2 3 R (.str v.s) rfl rfl;have r4:=i.2 4 T (.lst .any 6 (aM v.l)) rfl rfl;have r5:=i.2 5 U (.lst .any 7 (am v.m)) rfl rfl;cases r0;cases r1;cases r2;cases r3;obtain ⟨A1,c1,b1,o1,n1,rfl,_⟩:=cC r4;obtain ⟨A2,c2,b2,o2,n2,rfl,_⟩:=cC r5;have h:=FF v.kind v.b v.n v.s A1 A2 (aM v.l).length (am v.m).length c1 c2 w;rw [FG,aQ,au] at h;rw [aQ,au];refine h.mono ?_;rintro e w' ⟨rfl,hb⟩;exact ⟨σ,_,rfl,Ext.refl _ _,fun b q v r=>(hb.cell (p:=⟨b,q,none⟩) (World.block_lt_of_cell? w _ (j _ _ _ r))).trans (j _ _ _ r),hb,.bool _⟩
theorem vb (s:ByteArray) (p:s.size≤140737488355328):AC Tryz.prog 151 [.str s] (.bool (eZ s)):=by
 refine kE Tryz.func151 uA uB fun E r=> ?_
 refine kW ?_;refine aJ (fun k:Nat=>(ax [(0,.str s),(6,.int .i64 s.size),(7,.int .i64 k)],⟨ah [],fun _=>0⟩)) (fun k=>k≤s.size∧xn okT s k) (fun k=>s.size-k) 0 ⟨by omega,um _ _⟩ (wO ⟨kI,kI,kI,trivial⟩ trivial rfl rfl) fun k ⟨C,i⟩=> ?_
 refine kW ?_;refine kC (fun hb=> ?_) fun hb=> ?_
 ·have g:k<s.size:=by simpa using hb
  refine kW ?_;refine kQ [] ?_;rw [show s.data.getD (k:Int).toNat 0=s[k] from jz g];refine kW ?_;refine kQ [] ?_;refine kC (fun hb=> ?_) fun hb=> ?_
  ·refine kW ?_
   refine aR ⟨_,rfl,?_⟩
   have j:okT s[k]=false:=by
    simp only [Bool.or_eq_true,gA9,Bool.not_eq_true',gB0,decide_eq_false_iff_not] at hb;simp only [okT,Bool.or_eq_false_iff,Bool.and_eq_false_iff,decide_eq_false_iff_not,beq_eq_false_iff_ne,ne_eq];omega
   rw [eZ,uq g j];rfl
  ·have ht:okT s[k]=true:=by
    simp only [Bool.or_eq_false_iff,Bool.and_eq_false_iff,Bool.not_eq_false',gB0,decide_eq_false_iff_not] at hb;simp only [okT,Bool.or_eq_true,gA9,gB0,beq_iff_eq];omega
   refine kW ?_;exact AK.lp ⟨k+1,⟨by omega,uo i g ht⟩,wO ⟨kI,kI,kU,trivial⟩ trivial rfl rfl,by omega⟩
 ·have g:k=s.size:=by have:s.size≤k:=by simpa using hb
                      omega
  subst g;refine AK.exit rfl ?_;refine kW ?_;refine aR ⟨_,rfl,?_⟩;show AV.bool _=AV.bool _;refine congrArg AV.bool ?_;rw [eZ,xp i,Bool.eq_iff_iff];simp
  try omega
end
section
open Go.RowKit
theorem Bc {v:V} (h:nF v.kind v.b v.n v.s v.l.length v.m.length=true):v.partsC=8:=by rw [V.partsC_eq,if_pos h]
theorem Bd {v:V} (h:nF v.kind v.b v.n v.s v.l.length v.m.length=false) (ht:eZ v.s=false):v.partsC=10:=by rw [V.partsC_eq,if_neg (by simp [h]),if_pos ht]
theorem Be {v:V} (h:nF v.kind v.b v.n v.s v.l.length v.m.length=false) (ht:eZ v.s=true) (hl:dn v.l≠0):v.partsC=dn v.l:=by rw [V.partsC_eq,if_neg (by simp [h]),if_neg (by simp [ht]),if_pos hl]
theorem Dp {v:V} (h:nF v.kind v.b v.n v.s v.l.length v.m.length=false) (ht:eZ v.s=true) (hl:dn v.l=0):v.partsC=g6 none v.m:=by rw [V.partsC_eq,if_neg (by simp [h]),if_neg (by simp [ht]),if_neg (by simp [hl])]
theorem rH (s:ByteArray) (c:UInt8):AC Tryz.prog 175 [.str s,.str ⟨#[c]⟩] (.bool (decide (c∈s.data.toList))):=by
 refine ⟨by kernel_rfl,fun σ w vs p hr hg=> ?_⟩;obtain ⟨v1,v2,rfl,g,j⟩:=pc hr;have g:Rel1 σ v1 (.str s):=g;have j:Rel1 σ v2 (.str ⟨#[c]⟩):=j;cases g;cases j;refine (Tryz.strings_Contains_one s c w).mono ?_;rintro e w' ⟨rfl,rfl⟩
 have e:decide (0≤Lib.indexByte s.data.toList c)=decide (c∈s.data.toList):=by
  rcases uP s.data.toList c with ⟨g,j⟩|⟨i,g,j,r,C⟩
  ·rw [g,decide_eq_false j];rfl
  ·rw [g,decide_eq_true (show 0≤(i:Int) by omega),decide_eq_true (gA2 r)]
 rw [e];exact ⟨σ,_,rfl,Ext.refl _ _,p,Below.refl _ _,.bool _⟩
theorem KW (s:ByteArray):yv s=((decide (1≤s.size)&&decide (s.size≤256))&&eZ s&& !decide (10∈s.data.toList)&& !decide (9∈s.data.toList)):=by
 rw [Bool.eq_iff_iff];simp only [yv,eZ,yu,gA9,Bool.not_eq_true',gB0,decide_eq_false_iff_not,List.all_eq_true];constructor
 ·rintro ⟨g,j,p⟩
  refine ⟨⟨⟨⟨j,p⟩,fun x i=> ?_,by omega⟩,fun r=> ?_⟩,fun r=> ?_⟩
  ·have:=g x i
   simp only [okK,gA9,gB0] at this;simp [okT,this]
  ·have:=g _ r
   exact absurd this (by decide)
  ·have:=g _ r
   exact absurd this (by decide)
 ·rintro ⟨⟨⟨⟨j,p⟩,g,_⟩,C⟩,I⟩
  refine ⟨fun x i=> ?_,j,p⟩;have:=g x i;simp only [okT,Bool.or_eq_true,gA9,gB0,beq_iff_eq] at this;simp only [okK,gA9,gB0];rcases this with (h|h)|h
  ·exact h
  ·exact absurd (show (9:UInt8)∈s.data.toList by rw [←show x=9 from UInt8.toNat_inj.1 h];exact i) I
  ·exact absurd (show (10:UInt8)∈s.data.toList by rw [←show x=10 from UInt8.toNat_inj.1 h];exact i) C
theorem FH (s:ByteArray) (r:s.size≤140737488355328):AC Tryz.prog 152 [.str s] (.bool (yv s)):=by
 have C:=vb s r;have I:=rH s 10;have J:=rH s 9;refine kE Tryz.func152 we wf fun E P=> ?_
 refine kW ?_;refine kQ [.v (.bool (eZ s)),.v (.bool (decide (10∈s.data.toList))),.v (.bool (decide (9∈s.data.toList)))] ?_;refine kW ?_;refine aR ⟨_,rfl,?_⟩;refine congrArg AV.bool ?_;rw [KW];have j:=sz0 s;by_cases p:s.size=0
 ·have:=j.2 p
  subst this;rfl
 ·have hn: ¬s=⟨#[]⟩:=fun e=>p (j.1 e)
  have i:1≤s.size:=by omega
  have g:decide ((s.size:Int)≤256)=decide (s.size≤256):=by rw [Bool.eq_iff_iff];simp;omega
  rw [decide_eq_false hn,decide_eq_true i,g];rfl
end
section
open Go.RowKit
theorem FI {m:List (ByteArray×V)} {k:Nat} {y z:ByteArray} {x' :V} (g:0<k→m[k-1]? =some (z,x')):qg (rA m k) y=(decide ((k:Int)>0)&& !Op.bytesLess z.toList y.toList):=by
 cases k with
 |zero=>simp [rA,qg]
 |succ k=>
  have:=g (by omega);simp only [Nat.add_sub_cancel] at this;have e:decide (((k+1:Nat):Int)>0)=true:=decide_eq_true (by omega);rw [rA,this,e];simp [qg]
set_option maxRecDepth 4000 in
theorem Bf (n:Nat): ∀v:V,v.size≤n→v.sb→v.size≤2000000000000→AC Tryz.prog 97 [(vA (v))] (.int .i64 v.partsC):=by
 induction n with
 |zero=>intro v h;have:=v.size_pos;omega
 |succ n ih=>
  intro v hn j hsz;have T:=v.size_eq;have U:=bW v.l;have hlm:=bz v.m;refine kE Tryz.func97 sd se fun E hE=> ?_
  refine kW ?_;refine kP [.v (.bool (!nF v.kind v.b v.n v.s v.l.length v.m.length))] ?_ ?_
  ·((repeat' apply aI)<;>first|exact kD|(intro g;refine ⟨?_,kG⟩;(repeat' apply aI)<;>first|exact kD|skip)|skip)
   ·exact Jo v
  refine kC (fun hb=> ?_) fun hb=> ?_
  ·refine kW ?_
   refine aR ⟨_,rfl,?_⟩;exact congrArg (AV.int _) (Bc (by simpa using hb)).symm
  have r:nF v.kind v.b v.n v.s v.l.length v.m.length=false:=by simpa using hb
  refine kW ?_;refine kP [.v (.bool (eZ v.s))] ?_ ?_
  ·((repeat' apply aI)<;>first|exact kD|(intro g;refine ⟨?_,kG⟩;(repeat' apply aI)<;>first|exact kD|skip)|skip)
   ·exact vb _ (LU j)
  refine kC (fun hb=> ?_) fun hb=> ?_
  ·refine kW ?_
   refine aR ⟨_,rfl,?_⟩;exact congrArg (AV.int _) (Bd r (by simpa using hb)).symm
  have C:eZ v.s=true:=by simpa using hb
  refine kW ?_;refine aJ (fun k:Nat=>(ax [(1,.ptr 1 0),(19,.lst .any 6 (aM v.l)),(20,.int .i64 (aM v.l).length),(21,.int .i64 k)],⟨ah [(1,(vC (v)),false)],fun _=>0⟩)) (fun k=>k≤v.l.length∧dn (v.l.drop k)=dn v.l) (fun k=>v.l.length-k) 0 ⟨by omega,rfl⟩ (wO ⟨kI,kI,kI,kI,trivial⟩ ⟨kJ,trivial⟩ rfl rfl) fun k ⟨hk,hr⟩=> ?_
  refine kW ?_;refine kC (fun hb=> ?_) fun hb=> ?_
  ·have i:k<v.l.length:=by simpa [aQ] using hb
   obtain ⟨x,hg⟩: ∃x,v.l[k]? =some x:=⟨_,gA1 i⟩
   have hx:=jr hg;have J:=eS v.l (k+1);rw [Ap hg] at hr;refine kW ?_;refine kP [.c (vC (x))] ?_ ?_
   ·((repeat' apply aI)<;>first|exact kD|(intro g;refine ⟨?_,kG⟩;(repeat' apply aI)<;>first|exact kD|skip)|skip)
    ·exact fb hg
   refine kW ?_;refine kP [.v (.int .i64 x.partsC)] ?_ ?_
   ·((repeat' apply aI)<;>first|exact kD|(intro g;refine ⟨?_,kG⟩;(repeat' apply aI)<;>first|exact kD|skip)|skip)
    ·exact ih x (by omega) (LT j hg) (by omega)
   refine kW ?_;refine kC (fun hb=> ?_) fun hb=> ?_
   ·have p:x.partsC≠0:=by simpa using hb
    rw [if_pos p] at hr;refine kW ?_;refine aR ⟨_,rfl,?_⟩;exact congrArg (AV.int _) (by rw [Be r C (by rw [←hr];exact p)];exact hr)
   ·have p: ¬x.partsC≠0:=by simpa using hb
    rw [if_neg p] at hr;refine kW ?_;exact AK.lp ⟨k+1,⟨by omega,hr⟩,wO ⟨kI,kI,kI,kU,trivial⟩ ⟨kJ,trivial⟩ rfl rfl,by omega⟩
  ·have i:k=v.l.length:=by have:v.l.length≤k:=by simpa [aQ] using hb
                           omega
   subst i;have P:dn v.l=0:=by rw [←hr,List.drop_length];rfl
   clear hr;refine AK.exit rfl ?_;refine kW ?_;refine aJ (fun k:Nat=>(ax [(1,.ptr 1 0),(32,.lst .any 7 (am v.m)),(33,.int .i64 (am v.m).length),(34,.int .i64 k)],⟨ah [(1,(vC (v)),false)],fun _=>0⟩)) (fun k=>k≤v.m.length∧g6 (rA v.m k) (v.m.drop k)=v.partsC) (fun k=>v.m.length-k) 0 ⟨by omega,(Dp r C P).symm⟩ (wO ⟨kI,kI,kI,kI,trivial⟩ ⟨kJ,trivial⟩ rfl rfl) fun k ⟨hk,hr⟩=> ?_
   refine kW ?_;refine kC (fun hb=> ?_) fun hb=> ?_
   ·have i:k<v.m.length:=by simpa [au] using hb
    obtain ⟨⟨y,x⟩,hg⟩: ∃x,v.m[k]? =some x:=⟨_,gA1 i⟩
    obtain ⟨z,x',R⟩: ∃z x',0<k→v.m[k-1]? =some (z,x'):=by
     by_cases I:0<k
     ·exact ⟨(v.m[k-1]'(by omega)).1,(v.m[k-1]'(by omega)).2,fun _=>gA1 (by omega)⟩
     ·exact ⟨y,x,fun h=>absurd h I⟩
    have hx:=js hg;have J:=dD v.m (k+1);rw [Aq hg] at hr;refine kW ?_;refine kP [.c (.str y::(vC (x)))] ?_ ?_
    ·((repeat' apply aI)<;>first|exact kD|(intro g;refine ⟨?_,kG⟩;(repeat' apply aI)<;>first|exact kD|skip)|skip)
     ·exact bm hg
    refine kW ?_;refine kP [.v (.bool (yv y))] ?_ ?_
    ·((repeat' apply aI)<;>first|exact kD|(intro g;refine ⟨?_,kG⟩;(repeat' apply aI)<;>first|exact kD|skip)|skip)
     ·exact FH _ (Ls j hg).1
    refine kC (fun hb=> ?_) fun hb=> ?_
    ·refine kW ?_
     refine aR ⟨_,rfl,?_⟩;exact congrArg (AV.int _) (by rw [←hr,if_pos (by simpa using hb)])
    rw [if_neg (by simpa using hb)] at hr;refine kW ?_;refine kP [.c (.str z::(vC (x')))] ?_ ?_
    ·((repeat' apply aI)<;>first|exact kD|(intro g;refine ⟨?_,kG⟩;(repeat' apply aI)<;>first|exact kD|skip)|skip)
     ·have I:0<k:=by simpa [gd] using g
      rw [aD (by omega) (by omega)];omega
     ·have I:0<k:=by simpa [gd] using g
      rw [aD (by omega) (by omega),show ((k:Int)-1).toNat=k-1 by omega];exact bm (R I)
    have hn:=FI (y:=y) R;refine kC (fun hb=> ?_) fun hb=> ?_
    ·refine kW ?_
     refine aR ⟨_,rfl,?_⟩;exact congrArg (AV.int _) (by rw [←hr,if_pos (hn.trans hb)])
    rw [if_neg (by rw [hn,hb];decide)] at hr;refine kW ?_;refine kP [.v (.int .i64 x.partsC)] ?_ ?_
    ·((repeat' apply aI)<;>first|exact kD|(intro g;refine ⟨?_,kG⟩;(repeat' apply aI)<;>first|exact kD|skip)|skip)
     ·exact ih x (by omega) (Ls j hg).2 (by omega)
    refine kW ?_;refine kC (fun hb=> ?_) fun hb=> ?_
    ·have p:x.partsC≠0:=by simpa using hb
     rw [if_pos p] at hr;refine kW ?_;refine aR ⟨_,rfl,?_⟩;exact congrArg (AV.int _) hr
    ·have p: ¬x.partsC≠0:=by simpa using hb
     rw [if_neg p] at hr;refine kW ?_;exact AK.lp ⟨k+1,⟨by omega,hr⟩,wO ⟨kI,kI,kI,kU,trivial⟩ ⟨kJ,trivial⟩ rfl rfl,by omega⟩
   ·have i:k=v.m.length:=by have:v.m.length≤k:=by simpa [au] using hb
                            omega
    subst i;refine AK.exit rfl ?_;refine kW ?_;refine aR ⟨_,rfl,?_⟩;exact congrArg (AV.int _) (by rw [←hr,List.drop_length];rfl)
theorem Bg (v:V) (j:v.sb) (hsz:v.size≤2000000000000):AC Tryz.prog 49 [(vA (v))] (.int .i64 v.checkC):=by
 refine kE Tryz.func49 r7 r8 fun E r=> ?_
 refine kW ?_;refine kP [.v (.int .i64 v.depth)] ?_ ?_
 ·((repeat' apply aI)<;>first|exact kD|(intro g;refine ⟨?_,kG⟩;(repeat' apply aI)<;>first|exact kD|skip)|skip)
  ·exact Bb _ v (gA4 _) hsz
 refine kC (fun hb=> ?_) fun hb=> ?_
 ·have i:16<v.depth:=by have:((v.depth:Nat):Int)>16:=by simpa using hb
                        omega
  refine kW ?_;refine aR ⟨_,rfl,?_⟩;rw [V.checkC,if_pos i];rfl
 have i: ¬16<v.depth:=by have: ¬((v.depth:Nat):Int)>16:=by simpa using hb
                         omega
 refine kW ?_;refine kP [.v (.int .i64 v.size)] ?_ ?_
 ·((repeat' apply aI)<;>first|exact kD|(intro g;refine ⟨?_,kG⟩;(repeat' apply aI)<;>first|exact kD|skip)|skip)
  ·exact Do _ v (gA4 _) hsz
 refine kC (fun hb=> ?_) fun hb=> ?_
 ·have p:4096<v.size:=by have:((v.size:Nat):Int)>4096:=by simpa using hb
                         omega
  refine kW ?_;refine aR ⟨_,rfl,?_⟩;rw [V.checkC,if_neg i,if_pos p];rfl
 have p: ¬4096<v.size:=by have: ¬((v.size:Nat):Int)>4096:=by simpa using hb
                          omega
 refine kW ?_;refine kP [.v (.int .i64 v.partsC)] ?_ ?_
 ·((repeat' apply aI)<;>first|exact kD|(intro g;refine ⟨?_,kG⟩;(repeat' apply aI)<;>first|exact kD|skip)|skip)
  ·exact Bf _ v (gA4 _) j hsz
 refine kW ?_;refine aR ⟨_,rfl,?_⟩;rw [V.checkC,if_neg i,if_neg p];rfl
end
end Go.Proofs.YtbgflifmanjpjaaGreatDoor
