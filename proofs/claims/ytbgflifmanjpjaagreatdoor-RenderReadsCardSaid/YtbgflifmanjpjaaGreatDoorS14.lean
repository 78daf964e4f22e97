/- Part 14. -/
import Derived.Test.YtbgflifmanjpjaaGreatDoorS13
set_option linter.unusedSimpArgs false
set_option linter.unusedVariables false
namespace Go.Proofs.YtbgflifmanjpjaaGreatDoor
open Go.RowKit
theorem RowCs.set {esz:Nat} {rows:List (List AV)} {cap:Nat} {cs:List AV} (h:RowCs esz rows cap cs) {i:Nat} (hi:i<rows.length) {c' :List AV} (hl:c'.length=esz) (r:c'.map AV.unown=c'):
  RowCs esz (rows.set i c') cap (cs.take (i*esz)++c' ++cs.drop (i*esz+esz)):=by
 have hlen: ∀c∈rows,c.length=esz:=fun c g=>(h.ok.2 c g).1
 have j:(i+1)*esz≤rows.length*esz:=Nat.mul_le_mul_right _ hi;have C:rows.length*esz≤cs.length:=by rw [h.len];exact Nat.mul_le_mul_right _ h.cap
 rw [gC3,Nat.one_mul] at j;obtain ⟨sp,p⟩:=h.sp;refine ⟨⟨h.ok.1,fun c g=> ?_⟩,⟨sp,?_⟩,?_,by rw [List.length_set];exact h.cap,?_⟩
 ·rcases List.mem_or_eq_of_mem_set g with g|rfl
  ·exact h.ok.2 c g
  ·exact ⟨hl,r⟩
 ·rw [p,List.set_eq_take_append_cons_drop,if_pos hi,List.flatten_append,List.flatten_cons,f8 i hlen,ga (i+1) hlen,List.take_append_of_le_length (by rw [di hlen];omega),List.drop_append_of_le_length (by rw [di hlen];omega),gC3,Nat.one_mul]
  simp
 ·rw [←h.len]
  simp only [gA5,gA7,gA6,hl];omega
 ·simp only [List.map_append,List.map_take,List.map_drop,h.un,r]
theorem Hl {key:ByteArray} {m:List (ByteArray×V)} (h:cq key m=true):bZ key m<m.length:=by
 obtain ⟨_,y,hy⟩:=iG (x:=V.null) h;exact (gA0 hy).1
theorem pP {key:ByteArray} {x:V} {m:List (ByteArray×V)} (h:cq key m=false):am (ap key x m)=(am m).take (bZ key m)++(.str key::oA x)::(am m).drop (bZ key m):=by
 rw [sA h,pO,En,am,Eo]
abbrev zeroAVs:List AV:= [.int .i64 0,.bool false,.int .i64 0,.str ⟨#[]⟩,.lst .nil 6 [],.lst .nil 7 []]
def MZ (l:List (ByteArray×V)):Nat×Option (List (ByteArray×V)×Nat×List AV)→Fr×St
 |(k,none)=>(ar [(2,.ptr 2 0),(3,.ptr 3 0),(9,.lst .any 7 (am l)),(10,.int .i64 (am l).length),(11,.int .i64 k)],⟨ag [(2,zeroAVs,false),(3,[.int .i64 5,.bool false,.int .i64 0,.str ⟨#[]⟩,.lst .nil 6 [],.lst .nil 7 []],false)],fun _=>0⟩)
 |(k,some (m,cap,cs))=>(ar [(2,.ptr 2 0),(3,.ptr 3 0),(9,.lst .any 7 (am l)),(10,.int .i64 (am l).length),(11,.int .i64 k)],⟨ag [(2,zeroAVs,false),(3,[.int .i64 5,.bool false,.int .i64 0,.str ⟨#[]⟩,.lst .nil 6 [],.sli 1000042 7 (am m).length cap],false),(1000042,cs,false)],fun _=>0⟩)
def N7 (l:List (ByteArray×V)):Nat×Option (List (ByteArray×V)×Nat×List AV)→Prop
 |(k,none)=>k≤l.length∧iq (l.take k)= []
 |(k,some (m,cap,cs))=>k≤l.length∧iq (l.take k)=m∧RowCs 7 (am m) cap cs
theorem fc (l:List (ByteArray×V)) (hs:aA l≤1000000000000):AC Tryz.prog 36 [.lst .any 7 (am l)] (.agg [.int .i64 5,.bool false,.int .i64 0,.str ⟨#[]⟩,.lst .any 6 [],.lst .any 7 (am (iq l))]):=by
 have hll:=aZ l;refine kE Tryz.func36 xI xJ fun E hE=> ?_
 refine kW ?_;refine aJ (MZ l) (N7 l) (fun i=>l.length-i.1) (0,none) ⟨by omega,rfl⟩ (wO ⟨kI,kI,kI,kI,kI,trivial⟩ ⟨kJ,kJ,trivial⟩ rfl rfl) fun ⟨k,o⟩ hI=> ?_
 have hk:k≤l.length:=by cases o with|none=>exact hI.1|some o=>obtain ⟨m,cap,cs⟩:=o;exact hI.1
 obtain ⟨J,hsm,hlm⟩:=B7 (l.take k);have hsk:=bV l k;have hlk:(l.take k).length≤l.length:=by rw [gA7];omega
 cases o with
 |none=>
  have C:=hI.2;simp only [MZ];refine kW ?_;refine kC (fun hb=> ?_) fun hb=> ?_
  ·have g:k<l.length:=by simpa [ak] using hb
   obtain ⟨⟨y,x⟩,hg⟩: ∃x,l[k]? =some x:=⟨_,gA1 g⟩
   have hx:=fa (gA2 hg);simp only at hx;have j:=oB hg;rw [C] at j;refine kW ?_;refine kP [.c (.str y::(vC (x)))] ?_ ?_
   ·((repeat' apply aI)<;>first|exact kD|(intro p;refine ⟨?_,kG⟩;(repeat' apply aI)<;>first|exact kD|skip)|skip)
    ·exact aV hg
   refine kW ?_;refine kP [.v (.tup [.int .i64 (bZ y []:Nat),.bool (cq y [])])] ?_ ?_
   ·((repeat' apply aI)<;>first|exact kD|(intro p;refine ⟨?_,kG⟩;(repeat' apply aI)<;>first|exact kD|skip)|skip)
    ·exact mE [] y (by simp) (by simp)
   refine kW ?_;refine kC (fun hb=> ?_) fun hb=> ?_
   ·cases hb
   refine kW ?_;refine kP [.v ((vA (x))),.n 7 (am [(y,x)])] ?_ ?_
   ·((repeat' apply aI)<;>first|exact kD|(intro p;refine ⟨?_,kG⟩;(repeat' apply aI)<;>first|exact kD|skip)|skip)
    ·exact fy x (by omega)
    ·simp only [am,b9]
     exact Hj _
   (repeat (first|apply AK.seq|apply AK.block|apply AK.blk|apply AK.skip))
   refine AK.open2 42 1000042 rfl (by omega) rfl (pL _) fun cap cs hr=> ?_
   refine kW ?_;exact AK.lp ⟨(k+1,some ([(y,x)],cap,cs)),⟨by omega,j,hr⟩,wO ⟨kI,kI,kI,kI,kU,trivial⟩ ⟨kJ,kJ,kJ,trivial⟩ rfl rfl (by exact ⟨hr.un,trivial⟩),by dsimp only;omega⟩
  ·have g:k=l.length:=by have:l.length≤k:=by simpa [ak] using hb
                         omega
   rw [g,List.take_length] at C;rw [C];refine AK.exit rfl ?_;refine kW ?_;refine aR ⟨_,rfl,?_⟩;rfl
 |some o=>
  obtain ⟨m,cap,cs⟩:=o;obtain ⟨_,C,hr⟩:=hI;rw [C] at J hsm hlm;simp only [MZ];refine kW ?_;refine kC (fun hb=> ?_) fun hb=> ?_
  ·have g:k<l.length:=by simpa [ak] using hb
   obtain ⟨⟨y,x⟩,hg⟩: ∃x,l[k]? =some x:=⟨_,gA1 g⟩
   have hx:=fa (gA2 hg);simp only at hx;have j:=oB hg;rw [C] at j;refine kW ?_;refine kP [.c (.str y::(vC (x)))] ?_ ?_
   ·((repeat' apply aI)<;>first|exact kD|(intro p;refine ⟨?_,kG⟩;(repeat' apply aI)<;>first|exact kD|skip)|skip)
    ·exact aV hg
   refine kW ?_;refine kP [.b (am m) (.tup [.int .i64 (bZ y m:Nat),.bool (cq y m)])] ?_ ?_
   ·((repeat' apply aI)<;>first|exact kD|(intro p;refine ⟨?_,kG⟩;(repeat' apply aI)<;>first|exact kD|skip)|skip)
    ·exact hr.sp
    ·exact hr.len
    ·exact hr.ok.2
    ·exact mE m y J (by omega)
   refine kW ?_;refine kC (fun hb=> ?_) fun hb=> ?_
   ·have hf:cq y m=true:=hb
    obtain ⟨P,z,hz⟩:=iG (x:=x) hf;have I:=Hl hf;have R:=hr.row (aV hz);have hbl2:((bZ y m:Nat):Int)<(am m).length:=by rw [ak];omega
    refine kW ?_;refine kP [.v ((vA (x))),.c (.str y::(vC (z)))] ?_ ?_
    ·((repeat' apply aI)<;>first|exact kD|(intro p;refine ⟨?_,kG⟩;(repeat' apply aI)<;>first|exact kD|skip)|skip)
     ·exact fy x (by omega)
     ·exact R.2
    refine AK.exit rfl ?_;have r:=hr.set (i:=bZ y m) (by rw [ak];exact I) (c' := .str y::(vC (x))) rfl rfl;have T:am (ap y x m)=(am m).set (bZ y m) (.str y::(vC (x))):=by rw [P,Hi,b9]
    rw [←T] at r;have hln:(am m).length=(am (ap y x m)).length:=by rw [T,List.length_set]
    refine kW ?_;exact AK.lp ⟨(k+1,some (ap y x m,cap,_)),⟨by omega,j,r⟩,wO ⟨kI,kI,kI,kI,kU,trivial⟩ ⟨kJ,⟨_,rfl,aJz (by rw [hln])⟩,⟨_,rfl,aJz rfl⟩,trivial⟩ rfl rfl (by exact ⟨r.un,trivial⟩),by dsimp only;omega⟩
   ·have hf:cq y m=false:=hb
    have I:=FZ y m;refine kW ?_;refine kP [.v ((vA (x))),.m (am m) (am (ap y x m))] ?_ ?_
    ·((repeat' apply aI)<;>first|exact kD|(intro p;refine ⟨?_,kG⟩;(repeat' apply aI)<;>first|exact kD|skip)|skip)
     ·exact fy x (by omega)
     ·exact hr.sp
     ·exact hr.len
     ·exact hr.ok.2
     ·rw [pP hf,b9]
      exact Hk (am m) (bZ y m) _ (by rw [ak];exact I) (by rw [ak];omega)
    (repeat (first|apply AK.seq|apply AK.block|apply AK.blk|apply AK.skip))
    refine AK.open2 42 1000042 rfl (by omega) rfl (pL _) fun U cs2 r=> ?_
    refine kW ?_;exact AK.lp ⟨(k+1,some (ap y x m,U,cs2)),⟨by omega,j,r⟩,wO ⟨kI,kI,kI,kI,kU,trivial⟩ ⟨kJ,kJ,kJ,trivial⟩ rfl rfl (by exact ⟨r.un,trivial⟩),by dsimp only;omega⟩
  ·have g:k=l.length:=by have:l.length≤k:=by simpa [ak] using hb
                         omega
   rw [g,List.take_length] at C;rw [C];refine AK.exit rfl ?_
   (repeat (first|apply AK.seq|apply AK.block|apply AK.blk|apply AK.skip))
   refine AK.fz 1000042 rfl ?_;refine AK.weak (wO (L:= [(2,.ptr 2 0),(3,.ptr 3 0)]) (BL:= [(2,zeroAVs,false),(3,[.int .i64 5,.bool false,.int .i64 0,.str ⟨#[]⟩,.lst .nil 6 [],.lst .any 7 (am m)],false)]) ⟨kI,kI,trivial⟩ ⟨kJ,⟨_,rfl,⟨.refl _,.refl _,.refl _,.refl _,.refl _,hr.le rfl,trivial⟩⟩,trivial⟩ rfl rfl (by exact trivial)) ?_;refine kW ?_;refine aR ⟨_,rfl,?_⟩;rfl
end Go.Proofs.YtbgflifmanjpjaaGreatDoor
