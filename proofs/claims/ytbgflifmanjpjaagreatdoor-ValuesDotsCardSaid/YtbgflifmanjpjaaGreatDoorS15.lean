/- Part 15. -/
import Derived.Test.YtbgflifmanjpjaaGreatDoorS14
set_option linter.unusedSimpArgs false
set_option linter.unusedVariables false
namespace Go.Proofs.YtbgflifmanjpjaaGreatDoor
open Go.RowKit
theorem RowCs.set {esz:Nat} {rows:List (List AV)} {cap:Nat} {cs:List AV} (h:RowCs esz rows cap cs) {i:Nat} (hi:i<rows.length) {c' :List AV} (hl:c'.length=esz) (r:c'.map AV.unown=c'):
  RowCs esz (rows.set i c') cap (cs.take (i*esz)++c' ++cs.drop (i*esz+esz)):=by
 have hlen: ∀c∈rows,c.length=esz:=fun c g=>(h.ok.2 c g).1
 have j:(i+1)*esz≤rows.length*esz:=Nat.mul_le_mul_right _ hi;have C:rows.length*esz≤cs.length:=by rw [h.len];exact Nat.mul_le_mul_right _ h.cap
 rw [gC3,Nat.one_mul] at j;obtain ⟨sp,p⟩:=h.sp;refine ⟨⟨h.ok.1,fun c g=> ?_⟩,⟨sp,?_⟩,?_,by rw [List.length_set];exact h.cap,?_⟩
 ·rcases List.mem_or_eq_of_mem_set g with g|rfl
  ·exact h.ok.2 c g
  ·exact ⟨hl,r⟩
 ·rw [p,List.set_eq_take_append_cons_drop,if_pos hi,List.flatten_append,List.flatten_cons,jO i hlen,jP (i+1) hlen,List.take_append_of_le_length (by rw [fc hlen];omega),List.drop_append_of_le_length (by rw [fc hlen];omega),gC3,Nat.one_mul]
  simp
 ·rw [←h.len]
  simp only [gA5,gA7,gA6,hl];omega
 ·simp only [List.map_append,List.map_take,List.map_drop,h.un,r]
theorem Fc {key:ByteArray} {m:List (ByteArray×V)} (h:cf key m=true):bV key m<m.length:=by
 obtain ⟨_,y,hy⟩:=iJ (x:=V.null) h;exact (gA0 hy).1
theorem o6 {key:ByteArray} {x:V} {m:List (ByteArray×V)} (h:cf key m=false):ak (aq key x m)=(ak m).take (bV key m)++(.str key::dP x)::(ak m).drop (bV key m):=by
 rw [rE h,o5,C9,ak,Da]
abbrev zeroAVs:List AV:= [.int .i64 0,.bool false,.int .i64 0,.str ⟨#[]⟩,.lst .nil 6 [],.lst .nil 7 []]
def KU (l:List (ByteArray×V)):Nat×Option (List (ByteArray×V)×Nat×List AV)→Fr×St
 |(k,none)=>(au [(2,.ptr 2 0),(3,.ptr 3 0),(9,.lst .any 7 (ak l)),(10,.int .i64 (ak l).length),(11,.int .i64 k)],⟨ag [(2,zeroAVs,false),(3,[.int .i64 5,.bool false,.int .i64 0,.str ⟨#[]⟩,.lst .nil 6 [],.lst .nil 7 []],false)],fun _=>0⟩)
 |(k,some (m,cap,cs))=>(au [(2,.ptr 2 0),(3,.ptr 3 0),(9,.lst .any 7 (ak l)),(10,.int .i64 (ak l).length),(11,.int .i64 k)],⟨ag [(2,zeroAVs,false),(3,[.int .i64 5,.bool false,.int .i64 0,.str ⟨#[]⟩,.lst .nil 6 [],.sli 1000042 7 (ak m).length cap],false),(1000042,cs,false)],fun _=>0⟩)
def LR (l:List (ByteArray×V)):Nat×Option (List (ByteArray×V)×Nat×List AV)→Prop
 |(k,none)=>k≤l.length∧iv (l.take k)= []
 |(k,some (m,cap,cs))=>k≤l.length∧iv (l.take k)=m∧RowCs 7 (ak m) cap cs
theorem cJ (l:List (ByteArray×V)) (hs:aw l≤1000000000000):AC Tryz.prog 36 [.lst .any 7 (ak l)] (.agg [.int .i64 5,.bool false,.int .i64 0,.str ⟨#[]⟩,.lst .any 6 [],.lst .any 7 (ak (iv l))]):=by
 have hll:=aU l;refine kE Tryz.func36 wx wy fun E hE=> ?_
 refine kW ?_;refine aJ (KU l) (LR l) (fun i=>l.length-i.1) (0,none) ⟨by omega,rfl⟩ (wO ⟨kI,kI,kI,kI,kI,trivial⟩ ⟨kJ,kJ,trivial⟩ rfl rfl) fun ⟨k,o⟩ hI=> ?_
 have hk:k≤l.length:=by cases o with|none=>exact hI.1|some o=>obtain ⟨m,cap,cs⟩:=o;exact hI.1
 obtain ⟨J,hsm,hlm⟩:=AY (l.take k);have hsk:=bu l k;have hlk:(l.take k).length≤l.length:=by rw [gA7];omega
 cases o with
 |none=>
  have C:=hI.2;simp only [KU];refine kW ?_;refine kC (fun hb=> ?_) fun hb=> ?_
  ·have g:k<l.length:=by simpa [aj] using hb
   obtain ⟨⟨y,x⟩,hg⟩: ∃x,l[k]? =some x:=⟨_,gA1 g⟩
   have hx:=cm (gA2 hg);simp only at hx;have j:=nO hg;rw [C] at j;refine kW ?_;refine kP [.c (.str y::(vC (x)))] ?_ ?_
   ·((repeat' apply aI)<;>first|exact kD|(intro p;refine ⟨?_,kG⟩;(repeat' apply aI)<;>first|exact kD|skip)|skip)
    ·exact aQ hg
   refine kW ?_;refine kP [.v (.tup [.int .i64 (bV y []:Nat),.bool (cf y [])])] ?_ ?_
   ·((repeat' apply aI)<;>first|exact kD|(intro p;refine ⟨?_,kG⟩;(repeat' apply aI)<;>first|exact kD|skip)|skip)
    ·exact mg [] y (by simp) (by simp)
   refine kW ?_;refine kC (fun hb=> ?_) fun hb=> ?_
   ·cases hb
   refine kW ?_;refine kP [.v ((vA (x))),.n 7 (ak [(y,x)])] ?_ ?_
   ·((repeat' apply aI)<;>first|exact kD|(intro p;refine ⟨?_,kG⟩;(repeat' apply aI)<;>first|exact kD|skip)|skip)
    ·exact gD x (by omega)
    ·simp only [ak,bM]
     exact Fa _
   (repeat (first|apply AK.seq|apply AK.block|apply AK.blk|apply AK.skip))
   refine AK.open2 42 1000042 rfl (by omega) rfl (oX _) fun cap cs hr=> ?_
   refine kW ?_;exact AK.lp ⟨(k+1,some ([(y,x)],cap,cs)),⟨by omega,j,hr⟩,wO ⟨kI,kI,kI,kI,kU,trivial⟩ ⟨kJ,kJ,kJ,trivial⟩ rfl rfl (by exact ⟨hr.un,trivial⟩),by dsimp only;omega⟩
  ·have g:k=l.length:=by have:l.length≤k:=by simpa [aj] using hb
                         omega
   rw [g,List.take_length] at C;rw [C];refine AK.exit rfl ?_;refine kW ?_;refine aR ⟨_,rfl,?_⟩;rfl
 |some o=>
  obtain ⟨m,cap,cs⟩:=o;obtain ⟨_,C,hr⟩:=hI;rw [C] at J hsm hlm;simp only [KU];refine kW ?_;refine kC (fun hb=> ?_) fun hb=> ?_
  ·have g:k<l.length:=by simpa [aj] using hb
   obtain ⟨⟨y,x⟩,hg⟩: ∃x,l[k]? =some x:=⟨_,gA1 g⟩
   have hx:=cm (gA2 hg);simp only at hx;have j:=nO hg;rw [C] at j;refine kW ?_;refine kP [.c (.str y::(vC (x)))] ?_ ?_
   ·((repeat' apply aI)<;>first|exact kD|(intro p;refine ⟨?_,kG⟩;(repeat' apply aI)<;>first|exact kD|skip)|skip)
    ·exact aQ hg
   refine kW ?_;refine kP [.b (ak m) (.tup [.int .i64 (bV y m:Nat),.bool (cf y m)])] ?_ ?_
   ·((repeat' apply aI)<;>first|exact kD|(intro p;refine ⟨?_,kG⟩;(repeat' apply aI)<;>first|exact kD|skip)|skip)
    ·exact hr.sp
    ·exact hr.len
    ·exact hr.ok.2
    ·exact mg m y J (by omega)
   refine kW ?_;refine kC (fun hb=> ?_) fun hb=> ?_
   ·have hf:cf y m=true:=hb
    obtain ⟨P,z,hz⟩:=iJ (x:=x) hf;have I:=Fc hf;have R:=hr.row (aQ hz);have hbl2:((bV y m:Nat):Int)<(ak m).length:=by rw [aj];omega
    refine kW ?_;refine kP [.v ((vA (x))),.c (.str y::(vC (z)))] ?_ ?_
    ·((repeat' apply aI)<;>first|exact kD|(intro p;refine ⟨?_,kG⟩;(repeat' apply aI)<;>first|exact kD|skip)|skip)
     ·exact gD x (by omega)
     ·exact R.2
    refine AK.exit rfl ?_;have r:=hr.set (i:=bV y m) (by rw [aj];exact I) (c' := .str y::(vC (x))) rfl rfl;have T:ak (aq y x m)=(ak m).set (bV y m) (.str y::(vC (x))):=by rw [P,E9,bM]
    rw [←T] at r;have hln:(ak m).length=(ak (aq y x m)).length:=by rw [T,List.length_set]
    refine kW ?_;exact AK.lp ⟨(k+1,some (aq y x m,cap,_)),⟨by omega,j,r⟩,wO ⟨kI,kI,kI,kI,kU,trivial⟩ ⟨kJ,⟨_,rfl,aD (by rw [hln])⟩,⟨_,rfl,aD rfl⟩,trivial⟩ rfl rfl (by exact ⟨r.un,trivial⟩),by dsimp only;omega⟩
   ·have hf:cf y m=false:=hb
    have I:=Ej y m;refine kW ?_;refine kP [.v ((vA (x))),.m (ak m) (ak (aq y x m))] ?_ ?_
    ·((repeat' apply aI)<;>first|exact kD|(intro p;refine ⟨?_,kG⟩;(repeat' apply aI)<;>first|exact kD|skip)|skip)
     ·exact gD x (by omega)
     ·exact hr.sp
     ·exact hr.len
     ·exact hr.ok.2
     ·rw [o6 hf,bM]
      exact Fb (ak m) (bV y m) _ (by rw [aj];exact I) (by rw [aj];omega)
    (repeat (first|apply AK.seq|apply AK.block|apply AK.blk|apply AK.skip))
    refine AK.open2 42 1000042 rfl (by omega) rfl (oX _) fun U cs2 r=> ?_
    refine kW ?_;exact AK.lp ⟨(k+1,some (aq y x m,U,cs2)),⟨by omega,j,r⟩,wO ⟨kI,kI,kI,kI,kU,trivial⟩ ⟨kJ,kJ,kJ,trivial⟩ rfl rfl (by exact ⟨r.un,trivial⟩),by dsimp only;omega⟩
  ·have g:k=l.length:=by have:l.length≤k:=by simpa [aj] using hb
                         omega
   rw [g,List.take_length] at C;rw [C];refine AK.exit rfl ?_
   (repeat (first|apply AK.seq|apply AK.block|apply AK.blk|apply AK.skip))
   refine AK.fz 1000042 rfl ?_;refine AK.weak (wO (L:= [(2,.ptr 2 0),(3,.ptr 3 0)]) (BL:= [(2,zeroAVs,false),(3,[.int .i64 5,.bool false,.int .i64 0,.str ⟨#[]⟩,.lst .nil 6 [],.lst .any 7 (ak m)],false)]) ⟨kI,kI,trivial⟩ ⟨kJ,⟨_,rfl,⟨.refl _,.refl _,.refl _,.refl _,.refl _,hr.le rfl,trivial⟩⟩,trivial⟩ rfl rfl (by exact trivial)) ?_;refine kW ?_;refine aR ⟨_,rfl,?_⟩;rfl
end Go.Proofs.YtbgflifmanjpjaaGreatDoor
