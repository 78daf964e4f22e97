/- Part 10. -/
import Derived.Test.YtbgflifmanjpjaaGreatDoorS9
import Derived.Lib.Bytealg
set_option linter.unusedSimpArgs false
set_option linter.unusedVariables false
namespace Go.Proofs.YtbgflifmanjpjaaGreatDoor
section
open Go.RowKit
def bW (a b:ByteArray):Int:=Lib.compareBytes a.data.toList b.data.toList
theorem FV: ∀{a b:List UInt8},Lib.compareBytes a b<0↔Op.bytesLess a b=true
 | [],[]=>by simp [Lib.compareBytes,Op.bytesLess]
 | [],_::_=>by simp [Lib.compareBytes,Op.bytesLess]
 |_::_,[]=>by simp [Lib.compareBytes,Op.bytesLess]
 |a::l,b::m=>by
  rw [Lib.compareBytes];simp only [Op.bytesLess,Bool.or_eq_true,gB0,gA9,beq_iff_eq];split
  ·rename_i h;simp [h]
  ·rename_i h
   split
   ·rename_i g
    have:a≠b:=by rintro rfl;exact absurd g (UInt8.lt_irrefl _)
    simp [h,this]
   ·rename_i g
    have:a=b:=UInt8.le_antisymm (UInt8.not_lt.1 g) (UInt8.not_lt.1 h);subst this;simp [FV]
theorem FW: ∀{a b:List UInt8},Lib.compareBytes a b=0↔a=b
 | [],[]=>by simp [Lib.compareBytes]
 | [],_::_=>by simp [Lib.compareBytes]
 |_::_,[]=>by simp [Lib.compareBytes]
 |a::l,b::m=>by
  rw [Lib.compareBytes];split
  ·rename_i h
   have:a≠b:=by rintro rfl;exact absurd h (UInt8.lt_irrefl _)
   simp [this]
  ·rename_i h
   split
   ·rename_i g
    have:a≠b:=by rintro rfl;exact absurd g (UInt8.lt_irrefl _)
    simp [this]
   ·rename_i g
    have:a=b:=UInt8.le_antisymm (UInt8.not_lt.1 g) (UInt8.not_lt.1 h);subst this;simp [FW]
theorem eE {a b:ByteArray}:bW a b<0↔klt a b:=by
 rw [bW,FV,klt,ByteArray.toList_eq,ByteArray.toList_eq]
theorem ip {a b:ByteArray}:bW a b=0↔a=b:=by
 rw [bW,FW];constructor
 ·intro h
  rcases a with ⟨⟨a⟩⟩
  rcases b with ⟨⟨b⟩⟩
  simp at h;rw [h]
 ·rintro rfl;rfl
set_option maxHeartbeats 1000000 in
set_option maxRecDepth 100000 in
theorem xM (a b:ByteArray) (w:World):Calls Tryz.prog 185 #[.string a,.string b] w fun e w' =>e= .returned (.int .i64 (bW a b))∧w' =w:=by
 go_enter Tryz.func185,Tryz.ntmps185
 go_wp2
 rw [run_callFunc_extern Tryz.func234 (by kernel_rfl) (by kernel_rfl) (by kernel_rfl) (e:=Extern.BytealgCompare.compare) (by kernel_rfl),Lib.run_compareString];simp only [Result.andThen];rw [Oper.upon_value]
 go_wp2
 go_ret
 exact ⟨rfl,rfl⟩
theorem BV (a b:ByteArray):AC Tryz.prog 185 [.str a,.str b] (.int .i64 (bW a b)):=by
 refine ⟨by kernel_rfl,fun σ w vs g hr hg=> ?_⟩;obtain ⟨hl,hr⟩:=hr
 obtain ⟨u,v,rfl⟩: ∃u v,vs= [u,v]:=by
  match vs,hl with
  | [u,v],_=>exact ⟨u,v,rfl⟩
 have i:Rel1 σ u (.str a):=hr 0 _ _ rfl rfl;have j:Rel1 σ v (.str b):=hr 1 _ _ rfl rfl;cases i;cases j;refine (xM a b w).mono ?_;rintro e w' ⟨rfl,rfl⟩;exact ⟨σ,_,rfl,Ext.refl _ _,g,Below.refl _ _,Rel1.int _ _⟩
theorem z8 (a b:ByteArray):AC Tryz.prog 129 [.str a,.str b] (.int .i64 (bW a b)):=by
 refine kE Tryz.func129 lP lQ fun E i=> ?_
 refine kW ?_;refine kP [.v (.int .i64 (bW a b))] ?_ ?_
 ·((repeat' apply aI)<;>first|exact kD|(intro g;refine ⟨?_,kG⟩;(repeat' apply aI)<;>first|exact kD|skip)|skip)
  ·exact BV a b
 refine kW ?_;refine aR ⟨_,rfl,?_⟩;rfl
theorem FY (y:ByteArray) (x:V) (key:ByteArray):AC Tryz.prog 77 [.agg (.str y::(vC (x))),.str key] (.int .i64 (bW y key)):=by
 refine kE Tryz.func77 tn tp fun E i=> ?_
 refine kW ?_;refine kP [.v (.int .i64 (bW y key))] ?_ ?_
 ·((repeat' apply aI)<;>first|exact kD|(intro g;refine ⟨?_,kG⟩;(repeat' apply aI)<;>first|exact kD|skip)|skip)
  ·exact z8 y key
 refine kW ?_;refine aR ⟨_,rfl,?_⟩;rfl
end
section
open Go.RowKit
def vW (key:ByteArray) (p:ByteArray×V):Bool:=decide (bW p.1 key<0)
def bZ (key:ByteArray) (m:List (ByteArray×V)):Nat:=(m.takeWhile (vW key)).length
theorem FZ (key:ByteArray) (m:List (ByteArray×V)):bZ key m≤m.length:=(List.takeWhile_prefix _).length_le
theorem jd {a b c:ByteArray} (h:klt a b) (k:klt b c):klt a c:=vF h k
theorem uA {key:ByteArray}: ∀{m:List (ByteArray×V)} {i:Nat} {p:ByteArray×V},m.Pairwise (fun p q=>klt p.1 q.1)→m[i]? =some p→(bW p.1 key<0↔i<bZ key m)
 | [],i,p,_,h=>by simp at h
 |q::m,i,p,r,h=>by
  rw [bZ,List.takeWhile_cons];by_cases g:vW key q=true
  ·rw [if_pos g,gA3]
   cases i with
   |zero=>simp at h;subst h;simpa [vW] using g
   |succ i=>
    have:=uA (key:=key) (List.pairwise_cons.1 r).2 (show m[i]? =some p by simpa using h);rw [bZ] at this;rw [this];omega
  ·rw [if_neg g]
   simp only [List.length_nil,Nat.not_lt_zero,iff_false];intro C;cases i with
   |zero=>simp at h;subst h;exact g (by simpa [vW] using C)
   |succ i=>
    have j:=(List.pairwise_cons.1 r).1 p (gA2 (show m[i]? =some p by simpa using h));exact g (by rw [vW,gB0];exact eE.2 (jd j (eE.1 C)))
def cq (key:ByteArray) (m:List (ByteArray×V)):Bool:=match m[bZ key m]? with
 |some p=>decide (bW p.1 key=0)
 |none=>false
theorem BW {key:ByteArray} {m:List (ByteArray×V)} (g:m.Pairwise (fun p q=>klt p.1 q.1)) {x:V} (h:aU key m=some x):m[bZ key m]? =some (key,x)∧cq key m=true:=by
 obtain ⟨i,hi⟩:=List.getElem?_of_mem (fY h);have P:=uA (key:=key) g hi;have I:bW key key=0:=ip.2 rfl;have T: ¬i<bZ key m:=by rw [←P];simp [I]
 have U: ¬bZ key m<i:=by
  intro j;obtain ⟨r,R⟩:=gA0 hi;have hg:m[bZ key m]? =some (m[bZ key m]'(by omega)):=gA1 _;have C:=uA (key:=key) g hg;have J:=List.pairwise_iff_getElem.1 g (bZ key m) i (by omega) r j;rw [R] at J;exact absurd (C.1 (eE.2 J)) (by omega)
 have C:i=bZ key m:=by omega
 rw [C] at hi;exact ⟨hi,by rw [cq,hi];simp [I]⟩
theorem BX {key:ByteArray} {m:List (ByteArray×V)} (h:aU key m=none):cq key m=false:=by
 rw [cq];split
 ·rename_i p g
  refine decide_eq_false fun j=> ?_
  have r:=ip.1 j;have C:=gA2 g
  have: ∀{m:List (ByteArray×V)},aU key m=none→ ∀p∈m,p.1≠key:=by
   intro m
   induction m with
   |nil=>intro _ p g;cases g
   |cons q m ih=>
    obtain ⟨y,x⟩:=q;intro h p g;rw [aU] at h;split at h
    ·cases h
    ·rename_i i
     rcases gB2 g with rfl|g
     ·exact i
     ·exact ih h p g
  exact this h p C r
 ·rfl
theorem Jh {lo hi:Nat} (h:lo+hi≤1000000000000000):IntKind.i64.wrap ((IntKind.u64.wrap (IntKind.i64.wrap ((lo:Int)+hi))).fdiv (2^(min (1:Int).toNat IntKind.u64.bits)))=(((lo+hi) / 2:Nat):Int):=by
 rw [aD (n:=(lo:Int)+hi) (by omega) (by omega)]
 have g:IntKind.u64.wrap ((lo:Int)+hi)=(lo:Int)+hi:=by
  simp only [IntKind.wrap,IntKind.signed,IntKind.bits];simp;omega
 have i:((lo:Int)+hi).fdiv (2^(min (1:Int).toNat IntKind.u64.bits))=(((lo+hi) / 2:Nat):Int):=by
  have:(2:Int)^(min (1:Int).toNat IntKind.u64.bits)=2:=by decide
  rw [this,Int.fdiv_eq_ediv_of_nonneg _ (by decide)];omega
 rw [g,i,aD (by omega) (by omega)]
theorem Hb {key y:ByteArray} {x:V} {m:List (ByteArray×V)} (hg:bZ key m<m.length→m[bZ key m]? =some (y,x)):cq key m=(decide ((bZ key m:Int)<(am m).length)&&decide (bW y key=0)):=by
 rw [ak,cq];by_cases h:bZ key m<m.length
 ·rw [hg h,decide_eq_true (by omega:(bZ key m:Int)<m.length)]
  simp
 ·rw [List.getElem?_eq_none (by omega),decide_eq_false (by omega: ¬(bZ key m:Int)<m.length)]
  rfl
set_option maxRecDepth 4000 in
theorem mE (m:List (ByteArray×V)) (key:ByteArray) (U:m.Pairwise (fun p q=>klt p.1 q.1)) (hl:m.length≤2000000000000):
  AC Tryz.prog 76 [.lst .any 7 (am m),.str key,.fn 77 []] (.tup [.int .i64 (bZ key m:Nat),.bool (cq key m)]):=by
 have J:=FZ key m;refine kE Tryz.func76 dT dU fun E hE=> ?_
 refine kW ?_
 refine aJ (fun i:Nat×Nat=>(ar [(0,.lst .any 7 (am m)),(1,.str key),(2,.fn 77 []),(8,.int .i64 (am m).length),(9,.int .i64 i.1),(10,.int .i64 i.2)],⟨ag [],fun _=>0⟩))
  (fun i=>i.1≤bZ key m∧bZ key m≤i.2∧i.2≤m.length) (fun i=>i.2-i.1) (0,m.length) ⟨by simp,J,by simp⟩ (wO ⟨kI,kI,kI,kI,kI,⟨_,rfl,.of_eq (by rw [ak])⟩,trivial⟩ trivial rfl rfl) fun ⟨lo,hi⟩ ⟨P,R,T⟩=> ?_
 dsimp only at P R T;refine kW ?_;refine kC (fun hb=> ?_) fun hb=> ?_
 ·have j:lo<hi:=by simpa using hb
  refine kW ?_;refine kQ [] ?_;refine AK.weak (fr' :=ar [(0,.lst .any 7 (am m)),(1,.str key),(2,.fn 77 []),(8,.int .i64 (am m).length),(9,.int .i64 lo),(10,.int .i64 hi),(11,.int .i64 ((lo+hi) / 2:Nat))]) (st' :=⟨ag [],fun _=>0⟩) (wO ⟨kI,kI,kI,kI,kI,kI,⟨_,rfl,.of_eq (congrArg _ (Jh (by omega)))⟩,trivial⟩ trivial rfl rfl) ?_;obtain ⟨g,r⟩: ∃g,g=(lo+hi) / 2:=⟨_,rfl⟩
  rw [←r];have hm1:lo≤g:=by omega
  have hm2:g<hi:=by omega
  obtain ⟨⟨y,x⟩,hg⟩: ∃x,m[g]? =some x:=⟨_,gA1 (by omega)⟩
  have C:=uA (key:=key) U hg;refine kW ?_;refine kP [.c (.str y::(vC (x))),.v (.int .i64 (bW y key))] ?_ ?_
  ·((repeat' apply aI)<;>first|exact kD|(intro I;refine ⟨?_,kG⟩;(repeat' apply aI)<;>first|exact kD|skip)|skip)
   ·exact aV hg
   ·exact FY y x key
  refine kC (fun hb=> ?_) fun hb=> ?_
  ·have hk:g<bZ key m:=C.1 (by simpa using hb)
   refine kW ?_;exact AK.lp ⟨(g+1,hi),⟨by dsimp only;omega,R,T⟩,wO ⟨kI,kI,kI,kI,kU,kI,trivial⟩ trivial rfl rfl,by dsimp only;omega⟩
  ·have hk: ¬g<bZ key m:=fun h=>absurd (C.2 h) (by simpa using hb)
   refine kW ?_;exact AK.lp ⟨(lo,g),⟨P,by dsimp only;omega,by dsimp only;omega⟩,wO ⟨kI,kI,kI,kI,kI,kU,trivial⟩ trivial rfl rfl,by dsimp only;omega⟩
 ·have j:lo=bZ key m:=by have:hi≤lo:=by simpa using hb
                         omega
  subst j;refine AK.exit rfl ?_;refine kW ?_
  obtain ⟨y,x,hg⟩: ∃y x,bZ key m<m.length→m[bZ key m]? =some (y,x):=by
   by_cases h:bZ key m<m.length
   ·exact ⟨_,_,fun _=>gA1 h⟩
   ·exact ⟨key,V.null,fun h' =>absurd h' h⟩
  refine kP [.c (.str y::(vC (x))),.v (.int .i64 (bW y key))] ?_ ?_
  ·((repeat' apply aI)<;>first|exact kD|(intro I;refine ⟨?_,kG⟩;(repeat' apply aI)<;>first|exact kD|skip)|skip)
   ·exact aV (hg (by simpa [gd,ak] using I))
   ·exact FY y x key
  refine kW ?_;refine aR ⟨_,rfl,?_⟩;rw [Hb hg];rfl
end
section
open Go.RowKit
def Ld:Prop:= ∀v:V,v.size≤1000000000000→AC Tryz.prog 78 [(vA (v))] ((vA (v)))
theorem Ek {v:V} (hg:v.good) (g:v.kind≠5):v.m= []:=by
 cases i:v.m with
 |nil=>rfl
 |cons p m=>exact absurd (Ha hg (by rw [i];simp)) g
end
end Go.Proofs.YtbgflifmanjpjaaGreatDoor
