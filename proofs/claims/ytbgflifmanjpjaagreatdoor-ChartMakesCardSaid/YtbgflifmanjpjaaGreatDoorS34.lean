/- Part 34. -/
import Derived.Test.YtbgflifmanjpjaaGreatDoorS33
import Derived.Lib.ItoaNum
set_option linter.unusedSimpArgs false
set_option linter.unusedVariables false
namespace Go.Proofs.YtbgflifmanjpjaaGreatDoor
section
open Go.RowKit
theorem zb {a b:ByteArray} (h:a.data.toList=b.data.toList):a=b:=by
 cases a;cases b;congr 1;exact Array.toList_inj.1 h
end
section
open Go.RowKit
end
section
open Go.RowKit
theorem FZ {l r:List UInt8} {c:UInt8} (h:c∉l):Lib.indexByte (l++c::r) c=l.length:=by
 induction l with
 |nil=>simp [Lib.indexByte]
 |cons a l ih=>
  simp only [List.mem_cons,not_or] at h;have:=ih h.2;rw [List.cons_append,Lib.indexByte,if_neg (by simpa using Ne.symm h.1),this,if_neg (by simp)];simp
theorem JF {l:List UInt8} {c:UInt8} (h:c∉l):Lib.indexByte l c= -1:=by
 rcases uP l c with ⟨g,_⟩|⟨i,_,_,j,_⟩
 ·exact g
 ·exact absurd (gA2 j) h
def lA (c:UInt8):List Bs→Bs
 | []=> []
 |x::l=>x++l.flatMap fun t=>c::t
theorem vp (c:UInt8) (t u:Bs) (l:List Bs):lA c (t::u::l)=t++c::lA c (u::l):=by
 rw [lA,lA,List.flatMap_cons];rfl
theorem xT (c:UInt8): ∀(l:List Bs) (s:ByteArray),l≠ []→(∀t∈l,c∉t)→s.data.toList=lA c l→Lib.countB s ⟨#[c]⟩+1=l.length∧(Lib.splitB ⟨#[c]⟩ 0 (l.length-1) s).map (fun x=>x.data.toList)=l
 | [],_,h,_,_=>absurd rfl h
 | [t],s,_,j,g=>by
  have i:s.data.toList=t:=by rw [g];simp [lA]
  have hi:Lib.indexB s ⟨#[c]⟩= -1:=by
   show Lib.index s.data.toList [c]= -1;rw [Lib.index_one,JF (by rw [i];exact j t (by simp))]
  exact ⟨by rw [Lib.countB_miss _ _ hi];rfl,by show [s.data.toList]=_;rw [i]⟩
 |t::u::l,s,_,j,g=>by
  rw [vp] at g;have ht:=j t (by simp)
  have hi:Lib.indexB s ⟨#[c]⟩=(t.length:Nat):=by
   show Lib.index s.data.toList [c]=_;rw [Lib.index_one,g,FZ ht]
  have p:(s.extract (t.length+(ByteArray.mk #[c]).size) s.size).data.toList=lA c (u::l):=by
   rw [yO];show s.data.toList.drop (t.length+1)=_;have e:t++c::lA c (u::l)=(t++ [c])++lA c (u::l):=by simp
   rw [g,e,List.drop_append_of_le_length (by simp),List.drop_of_length_le (by simp)];rfl
  have r:(s.extract 0 (t.length+0)).data.toList=t:=by
   rw [Lib.extract_eq];show ((s.data.toList.drop 0).take _)=_;rw [g];simp
  obtain ⟨C,c2⟩:=xT c (u::l) (s.extract (t.length+(ByteArray.mk #[c]).size) s.size) (by simp) (fun x p=>j x (by simp [gB2 p])) p;refine ⟨?_,?_⟩
  ·rw [Lib.countB_hit _ _ _ (show 1≤(ByteArray.mk #[c]).size from gA4 1) hi]
   simp only [gA3] at C⊢;omega
  ·simp only [gA3,Nat.add_sub_cancel] at c2⊢
   rw [Lib.splitB_hit _ _ _ _ _ hi,List.map_cons,r,c2]
theorem F0 {c:UInt8} {l:List Bs} {s:ByteArray} (g:l≠ []) (i: ∀t∈l,c∉t) (j:s.data.toList=lA c l):(bX c s).map (fun x=>x.data.toList)=l:=by
 obtain ⟨p,c2⟩:=xT c l s g i j;rw [bX,show Lib.countB s ⟨#[c]⟩=l.length-1 by omega,c2]
end
section
open Go.RowKit
end
section
set_option maxRecDepth 100000
set_option maxHeartbeats 20000000
def bI:List Nat:= [2000026,2000010,2000028,2000027]
noncomputable def zc:ACode:=bK Tryz.prog bI Tryz.f18
noncomputable def zd:AFn:=⟨1,44,zc,[.tmp 2]⟩
theorem sI:ar Tryz.prog bI Tryz.f18=some zd:=kk
theorem sJ:ab Tryz.prog 18=true:=kk
noncomputable def wx:ACode:=bK Tryz.prog bI Tryz.f50
noncomputable def wy:AFn:=⟨1,60,wx,[.tmp 2,.tmp 3]⟩
theorem qH:ar Tryz.prog bI Tryz.f50=some wy:=kk
theorem qI:ab Tryz.prog 50=true:=kk
noncomputable def vq:ACode:=bK Tryz.prog bI Tryz.f21
noncomputable def vr:AFn:=⟨1,50,vq,[.tmp 2]⟩
theorem pp:ar Tryz.prog bI Tryz.f21=some vr:=kk
theorem pq:ab Tryz.prog 21=true:=kk
noncomputable def ze:ACode:=bK Tryz.prog bI Tryz.f51
noncomputable def zf:AFn:=⟨1,46,ze,[.tmp 2]⟩
theorem sK:ar Tryz.prog bI Tryz.f51=some zf:=kk
theorem sL:ab Tryz.prog 51=true:=kk
noncomputable def qJ:ACode:=bK Tryz.prog bI Tryz.f23
noncomputable def qK:AFn:=⟨1,11,qJ,[.tmp 2]⟩
theorem mH:ar Tryz.prog bI Tryz.f23=some qK:=kk
theorem mI:ab Tryz.prog 23=true:=kk
noncomputable def sM:ACode:=bK Tryz.prog bI Tryz.f20
noncomputable def sN:AFn:=⟨1,27,sM,[.tmp 2]⟩
theorem n8:ar Tryz.prog bI Tryz.f20=some sN:=kk
theorem n9:ab Tryz.prog 20=true:=kk
noncomputable def sO:ACode:=bK Tryz.prog bI Tryz.f19
noncomputable def sP:AFn:=⟨1,9,sO,[.tmp 2]⟩
theorem oa:ar Tryz.prog bI Tryz.f19=some sP:=kk
theorem ob:ab Tryz.prog 19=true:=kk
noncomputable def zg:ACode:=bK Tryz.prog bI Tryz.f24
noncomputable def zh:AFn:=⟨2,26,zg,[.tmp 4]⟩
theorem sQ:ar Tryz.prog bI Tryz.f24=some zh:=kk
theorem sR:ab Tryz.prog 24=true:=kk
noncomputable def wz:ACode:=bK Tryz.prog bI Tryz.f16
noncomputable def wA:AFn:=⟨1,103,wz,[.tmp 2,.tmp 3]⟩
theorem iR:ar Tryz.prog bI Tryz.f16=some wA:=kk
theorem iS:ab Tryz.prog 16=true:=kk
noncomputable def oc:ACode:=bK Tryz.prog bI Tryz.f4
noncomputable def od:AFn:=⟨2,143,oc,[.tmp 4]⟩
theorem kn:ar Tryz.prog bI Tryz.f4=some od:=kk
theorem ko:ab Tryz.prog 4=true:=kk
noncomputable def wB:ACode:=bK Tryz.prog bI Tryz.f15
noncomputable def wC:AFn:=⟨0,59,wB,[.tmp 0]⟩
theorem qL:ar Tryz.prog bI Tryz.f15=some wC:=kk
theorem qM:ab Tryz.prog 15=true:=kk
noncomputable def el:ACode:=bK Tryz.prog bI Tryz.f28
noncomputable def pr:AFn:=⟨2,59,el,[.tmp 4,.tmp 5,.tmp 6]⟩
theorem lB:ar Tryz.prog bI Tryz.f28=some pr:=kk
theorem lC:ab Tryz.prog 28=true:=kk
end
section
open Go.RowKit
def lD (c:UInt8):Bs→List Bs
 | []=> [[]]
 |d::t=>if d=c then []::lD c t else match lD c t with
  | []=> [[d]]
  |x::l=>(d::x)::l
theorem mf (c:UInt8): ∀s:Bs,lD c s≠ []
 | []=>by simp [lD]
 |d::t=>by
  rw [lD];split
  ·simp
  ·split<;>simp
theorem EG (c:UInt8): ∀(s:Bs),∀x∈lD c s,c∉x
 | [],x,h=>by rw [lD,List.mem_singleton] at h;subst h;simp
 |d::t,x,h=>by
  have ih:=EG c t;rw [lD] at h;split at h
  ·rcases gB2 h with rfl|h
   ·simp
   ·exact ih x h
  ·rename_i g
   split at h
   ·rw [List.mem_singleton] at h;subst h;simpa using Ne.symm g
   ·rename_i y l i
    rw [i] at ih;rcases gB2 h with rfl|h
    ·simp only [List.mem_cons,not_or]
     exact ⟨Ne.symm g,ih y (by simp)⟩
    ·exact ih x (by simp [h])
theorem xU (c:UInt8): ∀s:Bs,lA c (lD c s)=s
 | []=>rfl
 |d::t=>by
  have ih:=xU c t;rw [lD];split
  ·rename_i g
   subst g;cases h:lD d t with
   |nil=>exact absurd h (mf d t)
   |cons x l=>rw [vp,←h,ih];rfl
  ·split
   ·rename_i h;exact absurd h (mf c t)
   ·rename_i x l h
    rw [h] at ih;rw [←ih];cases l<;>rfl
theorem BC (c:UInt8) (s:ByteArray):(bX c s).map (fun x=>x.data.toList)=lD c s.data.toList:=F0 (mf c _) (EG c _) (xU c _).symm
def lE:Bs→Bs
 | []=> []
 |c::t=>if c=95 then t else c::t
def pt (w:Bs):Bool:=cK (toB (lE w))
def kp (w:Bs):Bs→Bool
 | []=>pt w
 |c::s=>if c=47 then pt w&&kp [] s else kp (w++ [c]) s
theorem zi: ∀(s w:Bs),kp w s=(match lD 47 s with| []=>true|x::l=>pt (w++x)&&l.all pt)
 | [],w=>by simp [kp,lD]
 |c::s,w=>by
  rw [kp,lD];split
  ·rw [zi s []]
   cases h:lD 47 s with
   |nil=>exact absurd h (mf 47 s)
   |cons x l=>simp
  ·rw [zi s (w++ [c])]
   cases h:lD 47 s with
   |nil=>exact absurd h (mf 47 s)
   |cons x l=>simp
theorem H6 (w:ByteArray):eF w ⟨#[95]⟩=toB (lE w.data.toList):=by
 refine zb ?_;unfold eF eE;have g:w.data.toList.length=w.size:=rfl;cases h:w.data.toList with
 |nil=>
  rw [h] at g;rw [if_neg (by simp;intro j;exact absurd j (by rw [←g];decide)),h];rfl
 |cons c t=>
  rw [h] at g
  have e:w.extract 0 (ByteArray.mk #[95]).size=⟨#[c]⟩:=by
   rw [Lib.extract_eq];show ByteArray.mk (((w.data.toList.drop 0).take 1).toArray)=_;rw [h];rfl
  have p:(ByteArray.mk #[95]).size=1:=rfl;rw [e];by_cases i:c=95
  ·subst i
   rw [if_pos (by simp [p];rw [←g];simp),lE,if_pos rfl,Lib.extract_eq];show (w.data.toList.drop 1).take (w.size-1)=t;rw [h,←g];simp
  ·rw [if_neg (by simp [i]),lE,if_neg i,h]
   rfl
theorem BD (w:ByteArray):ly w=pt w.data.toList:=by
 unfold ly;rw [H6];by_cases g:w=⟨#[]⟩
 ·subst g;decide+kernel
 by_cases i:w=⟨#[46]⟩
 ·subst i;decide+kernel
 by_cases j:w=⟨#[46,46]⟩
 ·subst j;decide+kernel
 rw [decide_eq_false g,decide_eq_false i,decide_eq_false j];simp [pt]
theorem H7 (s:ByteArray):cA s=(if 256<s.size then false else kp [] s.data.toList):=by
 have e:(bX 47 s).all ly=kp [] s.data.toList:=by
  rw [zi,←BC];cases h:bX 47 s with
  |nil=>
   have:=BC 47 s;rw [h] at this;exact absurd this.symm (mf 47 _)
  |cons x l=>
   simp only [List.map_cons,List.all_cons,List.nil_append,BD];congr 1;rw [List.all_map];exact congrArg _ (funext fun y=>BD y)
 unfold cA;rw [e];split
 ·rw [decide_eq_false (by omega),Bool.and_false]
 ·rw [decide_eq_true (by omega),Bool.and_true]
theorem H8 (s:ByteArray) {k:Nat} (h:k<s.size):s.data.toList.drop k=s[k]::s.data.toList.drop (k+1):=by
 have g:k<s.data.toList.length:=by simpa using h
 rw [List.drop_eq_getElem_cons g];rfl
theorem K2 (s:ByteArray) (a b:Nat):(s.extract a b).size≤s.size:=by
 rw [ByteArray.size_extract];omega
theorem LA (s:ByteArray) {k:Nat} (h:k<s.size):s.extract k (k+1)=⟨#[s.data.getD k 0]⟩:=by
 rw [jz h,Lib.extract_eq];show ByteArray.mk (((s.data.toList.drop k).take (k+1-k)).toArray)=_;rw [show k+1-k=1 by omega,List.drop_eq_getElem_cons (show k<s.data.toList.length from h)];rfl
theorem H9 (w:ByteArray):toB (lE w.data.toList)=(if (decide ((w.size:Int)>0)&&decide (((w.data.getD 0 0).toNat:Int)=95))=true then w.extract 1 w.size else w):=by
 have g:w.data.toList.length=w.size:=rfl
 have hg: ∀x l,w.data.toList=x::l→w.data.getD 0 0=x:=fun x l h=>by
  rw [Array.getD_eq_getD_getElem?,←Array.getElem?_toList,h];rfl
 cases h:w.data.toList with
 |nil=>
  rw [h] at g;rw [if_neg (by rw [←g];simp)];refine zb ?_;rw [h];rfl
 |cons c t=>
  rw [h] at g;have g:t.length+1=w.size:=by simpa using g
  rw [hg c t h,decide_eq_true (show (w.size:Int)>0 by omega),Bool.true_and,lE];by_cases i:c=95
  ·subst i
   rw [if_pos rfl,if_pos (by decide)];refine zb ?_;rw [Lib.extract_eq];show t=(w.data.toList.drop 1).take (w.size-1);rw [h,←g];simp
  ·rw [if_neg i,if_neg]
   ·refine zb ?_
    rw [h];rfl
   ·intro j
    have p:((c.toNat:Int))=95:=gB3 j;exact i (UInt8.toNat_inj.1 (show c.toNat=95 by omega))
theorem rJ (s:ByteArray) (hs:s.size≤140737488355328):AC Tryz.prog 18 [.str s] (.bool (cA s)):=by
 rw [H7];refine kE Tryz.func18 sI sJ fun E hE=> ?_
 refine kW ?_;refine kC (fun hb=> ?_) fun hb=> ?_
 ·have h:256<s.size:=by have:=gB3 hb;omega
  rw [if_pos h];refine kW ?_;refine aR ⟨_,rfl,?_⟩;rfl
 have h: ¬256<s.size:=by have:=gB4 hb;omega
 rw [if_neg h];refine kW ?_
 refine aJ (fun i:Nat×ByteArray=>(ax [(0,.str s),(3,.str i.2),(4,.int .i64 i.1)],⟨ah [],fun _=>0⟩)) (fun i=>i.1≤s.size+1∧i.2.size≤i.1∧((i.1≤s.size∧kp [] s.data.toList=kp i.2.data.toList (s.data.toList.drop i.1))∨(i.1=s.size+1∧kp [] s.data.toList=true))) (fun i=>s.size+1-i.1) (0,⟨#[]⟩)
  ⟨by omega,gA4 _,.inl ⟨gB8 _,rfl⟩⟩ (wO ⟨kI,kI,kI,trivial⟩ trivial rfl rfl) fun ⟨k,w⟩ ⟨hk,hw,p⟩=> ?_
 dsimp only at hk hw p;dsimp only;refine kW ?_;refine kC (fun hb=> ?_) fun hb=> ?_
 ·have hk:k≤s.size:=by have:=gB3 hb;omega
  have p:kp [] s.data.toList=kp w.data.toList (s.data.toList.drop k):=by
   rcases p with ⟨_,h⟩|⟨h,_⟩
   ·exact h
   ·omega
  have R:k<s.size→s.data.toList.drop k=s.data.getD k 0::s.data.toList.drop (k+1):=fun j=>by
   rw [jz j];exact H8 s j
  refine kW ?_;refine kP [] ?_ ?_
  ·((repeat' apply aI)<;>first|exact kD|(intro r;refine ⟨?_,kG⟩;(repeat' apply aI)<;>first|exact kD|skip)|skip)
   all_goals (have hh:=gB3 (show decide _=true from r);omega)
  refine kC (fun hb=> ?_) fun hb=> ?_
  ·obtain ⟨C,P⟩:=Bool.and_eq_true_iff.1 hb
   have j:k<s.size:=by have:=gB3 C;omega
   have hc:s.data.getD k 0≠47:=fun e=>by
    have T:((k:Int)).toNat=k:=by omega
    rw [T,e] at P;cases P
   rw [R j,kp,if_neg hc] at p;refine kW ?_;refine kP [] ?_ ?_
   ·((repeat' apply aI)<;>first|exact kD|(intro r;refine ⟨?_,kG⟩;(repeat' apply aI)<;>first|exact kD|skip)|skip)
    all_goals simp only [aD (show-9223372036854775808≤(k:Int)+1 by omega) (show (k:Int)+1≤9223372036854775807 by omega)]
    all_goals (have hz1:=K2 s (k:Int).toNat ((k:Int)+1).toNat;omega)
   refine AK.exit rfl ?_;refine kW ?_;refine AK.lp ⟨(k+1,w++⟨#[s.data.getD k 0]⟩),⟨by dsimp only;omega,by dsimp only;rw [ByteArray.size_append];show w.size+1≤_;omega,.inl ⟨by dsimp only;omega,?_⟩⟩,wO ⟨kI,⟨_,rfl,.of_eq (congrArg AV.str ?_)⟩,kU,trivial⟩ trivial rfl rfl,by dsimp only;omega⟩
   ·dsimp only
    rw [p];congr 1
   ·dsimp only
    rw [←LA s j];have T:((k:Int)).toNat=k:=by omega
    have e2:(IntKind.i64.wrap ((k:Int)+1)).toNat=k+1:=by rw [aD (by omega) (by omega)];omega
    rw [T,e2]
  ·obtain ⟨rest,g,hr⟩: ∃rest,kp [] s.data.toList=(pt w.data.toList&&rest)∧((k<s.size∧rest=kp [] (s.data.toList.drop (k+1)))∨(k=s.size∧rest=true)):=by
    by_cases j:k<s.size
    ·have hc:s.data.getD k 0=47:=by
      have T:((k:Int)).toNat=k:=by omega
      rw [decide_eq_true (show (k:Int)<(s.size:Int) by omega),Bool.true_and,T] at hb;have I:(((s.data.getD k 0).toNat:Int))=47:=by simpa using hb
      exact UInt8.toNat_inj.1 (show (s.data.getD k 0).toNat=47 by omega)
     rw [R j,kp,if_pos hc] at p;exact ⟨_,p,.inl ⟨j,rfl⟩⟩
    ·have e:k=s.size:=by omega
     have e2:s.data.toList.drop k= []:=by rw [e];exact gB6 (gA4 _)
     rw [e2,kp] at p;exact ⟨true,by rw [p,Bool.and_true],.inr ⟨e,rfl⟩⟩
   have hT:=H9 w
   have hzw:(toB (lE w.data.toList)).size≤w.size:=by
    show (lE w.data.toList).toArray.size≤w.data.toList.length;rw [List.size_toArray];cases w.data.toList with
    |nil=>exact gA4 _
    |cons c t=>rw [lE];split<;>simp
   have U:=xw (toB (lE w.data.toList)) (by omega);rw [show cK (toB (lE w.data.toList))=pt w.data.toList from rfl] at U;rw [hT] at U;clear hT;refine kW ?_;refine kP [] ?_ ?_
   ·((repeat' apply aI)<;>first|exact kD|(intro r;refine ⟨?_,kG⟩;(repeat' apply aI)<;>first|exact kD|skip)|skip)
    all_goals (have hh:=gB3 (show decide _=true from r);omega)
   refine kC (fun hb=> ?_) fun hb=> ?_
   ·have J:(decide ((w.size:Int)>0)&&decide (((w.data.getD 0 0).toNat:Int)=95))=true:=hb
    rw [if_pos J] at U
    have hw0:0<w.size:=by
     have:=gB3 (Bool.and_eq_true_iff.1 hb).1;omega
    refine kW ?_;refine kQ [] ?_;refine kW ?_;refine kQ [.v (.bool (pt w.data.toList))] ?_;refine kC (fun hb=> ?_) fun hb=> ?_
    ·have C:pt w.data.toList=false:=by simpa using hb
     rw [C,Bool.false_and] at g;refine kW ?_;refine aR ⟨_,rfl,?_⟩;rw [g];rfl
    ·have C:pt w.data.toList=true:=by simpa using hb
     rw [C,Bool.true_and] at g;refine kW ?_
     exact AK.lp ⟨(k+1,⟨#[]⟩),⟨by dsimp only;omega,by dsimp only;exact gB8 _,by
      dsimp only;rcases hr with ⟨P,I⟩|⟨P,I⟩
      ·exact .inl ⟨by omega,by rw [g,I]⟩
      ·exact .inr ⟨by omega,by rw [g,I]⟩⟩,wO ⟨kI,kI,kU,trivial⟩ trivial rfl rfl,by dsimp only;omega⟩
   ·have J:(decide ((w.size:Int)>0)&&decide (((w.data.getD 0 0).toNat:Int)=95))=false:=hb
    rw [if_neg (by rw [J];simp)] at U;refine kW ?_;refine kQ [.v (.bool (pt w.data.toList))] ?_;refine kC (fun hb=> ?_) fun hb=> ?_
    ·have C:pt w.data.toList=false:=by simpa using hb
     rw [C,Bool.false_and] at g;refine kW ?_;refine aR ⟨_,rfl,?_⟩;rw [g];rfl
    ·have C:pt w.data.toList=true:=by simpa using hb
     rw [C,Bool.true_and] at g;refine kW ?_
     exact AK.lp ⟨(k+1,⟨#[]⟩),⟨by dsimp only;omega,by dsimp only;exact gB8 _,by
      dsimp only;rcases hr with ⟨P,I⟩|⟨P,I⟩
      ·exact .inl ⟨by omega,by rw [g,I]⟩
      ·exact .inr ⟨by omega,by rw [g,I]⟩⟩,wO ⟨kI,kI,kU,trivial⟩ trivial rfl rfl,by dsimp only;omega⟩
 ·have hk2:k=s.size+1:=by have:=gB4 hb;omega
  have p:kp [] s.data.toList=true:=by
   rcases p with ⟨h,_⟩|⟨_,h⟩
   ·omega
   ·exact h
  refine AK.exit rfl ?_;refine kW ?_;refine aR ⟨_,rfl,?_⟩;rw [p];rfl
theorem BE (l:List Fl) (hl:l.length≤1000):AC Tryz.prog 21 [.lst .any 2 (aq l)] (.lst .any 2 (aq (cS l))):=by
 refine kE Tryz.func21 pp pq fun E hE=> ?_
 refine kW ?_
 refine aJ (fun i:Nat×(Nat→Nat)=>(ax [(0,.lst .any 2 (aq l)),(3,.lst .any 2 (aq (cS (l.take i.1)))),(4,.int .i64 i.1)],⟨ah [],i.2⟩)) (fun i=>i.1≤l.length) (fun i=>l.length-i.1) (0,fun _=>0) (gB8 _)
  (wO ⟨kI,⟨_,rfl,.one (.any _ _ _)⟩,kI,trivial⟩ trivial rfl rfl) fun ⟨k,r⟩ hk=> ?_
 dsimp only at hk;dsimp only;refine kW ?_;refine kC (fun hb=> ?_) fun hb=> ?_
 ·have P:k<l.length:=by simpa [ak] using hb
  obtain ⟨p,hg⟩: ∃x,l[k]? =some x:=⟨_,gA1 P⟩
  have hs:cS (l.take (k+1))=iN p (cS (l.take k)):=by rw [List.take_add_one,hg];exact Dt _ _
  have hol:(cS (l.take k)).length≤1000:=by rw [qC,gA7];omega
  generalize cS (l.take k)=out at*;refine kW ?_
  refine aJ (fun j:Nat=>(ax [(0,.lst .any 2 (aq l)),(3,.lst .any 2 (aq out)),(4,.int .i64 k),(5,.int .i64 j)],⟨ah [],r⟩)) (fun j=>j≤out.length∧ ∀(i:Nat) q,i<j→out[i]? =some q→Op.bytesLess q.1.toList p.1.toList=true) (fun j=>out.length-j) 0
   ⟨gB8 _,fun i q h=>by omega⟩ (wO ⟨kI,kI,kI,kI,trivial⟩ trivial rfl rfl) fun j ⟨hj,I⟩=> ?_
  refine kW ?_;have C:(∀q,out[j]? =some q→Op.bytesLess q.1.toList p.1.toList=false)→iN p out=out.take j++p::out.drop j:=Ey out j I
  have J:(([]++((aq out).take ((j:Nat):Int).toNat).drop ((0:Nat):Int).toNat)++ [[.str p.1,.str p.2]])++((aq out).take (((aq out).length:Nat):Int).toNat).drop ((j:Nat):Int).toNat=aq (out.take j++p::out.drop j):=by
   simp [aq];rw [List.take_of_length_le (by simp)]
  cases T:out[j]? with
  |none=>
   have R:out.length≤j:=List.getElem?_eq_none_iff.1 T;have U:decide ((j:Int)<((aq out).length:Int))=false:=by rw [ak];simpa using R
   refine kP [.c [.str ⟨#[]⟩,.str ⟨#[]⟩],.c [.str p.1,.str p.2]] ?_ ?_
   ·((repeat' apply aI)<;>first|exact kD|(intro g;refine ⟨?_,kG⟩;(repeat' apply aI)<;>first|exact kD|skip)|skip)
    all_goals (exfalso;rw [U] at g;simp [gd] at g)
   rw [U];refine kC (fun hb=> ?_) fun hb=> ?_
   ·cases hb
   refine AK.exit rfl ?_;have C:=C (fun q h=>by rw [T] at h;cases h);refine kW ?_;refine kP [] ?_ ?_
   ·((repeat' apply aI)<;>first|exact kD|(intro g;refine ⟨?_,kG⟩;(repeat' apply aI)<;>first|exact kD|skip)|skip)
    all_goals simp only [ak,List.length_nil,gA7,gA6]
    all_goals omega
   refine kW ?_;refine kP [.c [.str p.1,.str p.2]] ?_ ?_
   ·((repeat' apply aI)<;>first|exact kD|(intro g;refine ⟨?_,kG⟩;(repeat' apply aI)<;>first|exact kD|skip)|skip)
    ·exact bY hg
    all_goals simp only [ak,List.length_nil,gA7,gA6,gA5,gA3]
    all_goals omega
   refine kW ?_;refine kP [] ?_ ?_
   ·((repeat' apply aI)<;>first|exact kD|(intro g;refine ⟨?_,kG⟩;(repeat' apply aI)<;>first|exact kD|skip)|skip)
    all_goals simp only [ak,List.length_nil,gA7,gA6,gA5,gA3]
    all_goals omega
   refine kW ?_;refine AK.lp ⟨(k+1,_),by dsimp only;omega,wO ⟨kI,⟨_,rfl,?_⟩,kU,trivial⟩ trivial rfl rfl,by dsimp only;omega⟩;dsimp only;rw [hs,C,←J];exact .one (.any _ _ _)
  |some q=>
   have R:j<out.length:=(gA0 T).1;have U:decide ((j:Int)<((aq out).length:Int))=true:=by rw [ak];simpa using R
   refine kP [.c [.str q.1,.str q.2],.c [.str p.1,.str p.2]] ?_ ?_
   ·((repeat' apply aI)<;>first|exact kD|(intro g;refine ⟨?_,kG⟩;(repeat' apply aI)<;>first|exact kD|skip)|skip)
    all_goals first|exact bY T|exact bY hg|(simp only [ak];omega)|skip
   rw [U,Bool.true_and];refine kC (fun hb=> ?_) fun hb=> ?_
   ·refine kW ?_
    exact AK.lp ⟨j+1,⟨by omega,fun i x h hi=>by
     by_cases e:i=j
     ·subst e;rw [T] at hi;cases hi;exact hb
     ·exact I i x (by omega) hi⟩,wO ⟨kI,kI,kI,kU,trivial⟩ trivial rfl rfl,by omega⟩
   refine AK.exit rfl ?_;have C:=C (fun q h=>by rw [T] at h;cases h;exact hb);refine kW ?_;refine kP [] ?_ ?_
   ·((repeat' apply aI)<;>first|exact kD|(intro g;refine ⟨?_,kG⟩;(repeat' apply aI)<;>first|exact kD|skip)|skip)
    all_goals simp only [ak,List.length_nil,gA7,gA6]
    all_goals omega
   refine kW ?_;refine kP [.c [.str p.1,.str p.2]] ?_ ?_
   ·((repeat' apply aI)<;>first|exact kD|(intro g;refine ⟨?_,kG⟩;(repeat' apply aI)<;>first|exact kD|skip)|skip)
    ·exact bY hg
    all_goals simp only [ak,List.length_nil,gA7,gA6,gA5,gA3]
    all_goals omega
   refine kW ?_;refine kP [] ?_ ?_
   ·((repeat' apply aI)<;>first|exact kD|(intro g;refine ⟨?_,kG⟩;(repeat' apply aI)<;>first|exact kD|skip)|skip)
    all_goals simp only [ak,List.length_nil,gA7,gA6,gA5,gA3]
    all_goals omega
   refine kW ?_;refine AK.lp ⟨(k+1,_),by dsimp only;omega,wO ⟨kI,⟨_,rfl,?_⟩,kU,trivial⟩ trivial rfl rfl,by dsimp only;omega⟩;dsimp only;rw [hs,C,←J];exact .one (.any _ _ _)
 ·have P:k=l.length:=by have:l.length≤k:=by simpa [ak] using hb
                        omega
  subst P;refine AK.exit rfl ?_;refine kW ?_;refine aR ⟨_,rfl,?_⟩;rw [List.take_length];rfl
theorem LB:Tryz.prog.stoodInHeld 52=false:=kk
theorem K3:Tryz.prog.eqGuardType Tryz.prog.depth 52=false:=kk
theorem JG (a b:ByteArray):a.toList=b.toList↔a=b:=⟨LastIndex.eq_of_toList,fun h=>by rw [h]⟩
theorem JH (a b d e:ByteArray):Ke Tryz.prog true 52 [.string a,.string b] [.string d,.string e] (eQ [.str a,.str b] [.str d,.str e]):=by
 intro w x y;constructor
 ·simp [go_sem,eqGuard,jj,K3]
 ·simp [go_sem,jj,LB,eQ,JG]
  by_cases g:a=d<;>by_cases i:b=e<;>simp [g,i]
theorem BF (a b d e:ByteArray):eQ [.str a,.str b] [.str d,.str e]=decide ((a,b)=(d,e)):=by
 simp [eQ]
theorem K4 (a b:List Fl) (T:a.length≤4398046511104) (P:b.length≤4398046511104):AC Tryz.prog 24 [.lst .any 2 (aq a),.lst .any 2 (aq b)] (.bool (decide (a=b))):=by
 refine kE Tryz.func24 sQ sR fun E U=> ?_
 refine kW ?_;refine kC (fun hb=> ?_) fun hb=> ?_
 ·have g:a≠b:=by
   rintro rfl;simp at hb
  refine kW ?_;refine aR ⟨_,rfl,?_⟩;rw [decide_eq_false g];rfl
 have hlen:a.length=b.length:=by
  have: ¬ ¬((aq a).length:Int)=(aq b).length:=by simpa using hb
  rw [ak,ak] at this;omega
 refine kW ?_;refine aJ (fun k:Nat=>(ax [(0,.lst .any 2 (aq a)),(1,.lst .any 2 (aq b)),(12,.int .i64 (aq a).length),(13,.int .i64 k)],⟨ah [],fun _=>0⟩)) (fun k=>k≤a.length∧ ∀j,j<k→a[j]? =b[j]?) (fun k=>a.length-k) 0 ⟨gB8 _,fun j h=>by omega⟩ (wO ⟨kI,kI,kI,kI,trivial⟩ trivial rfl rfl) fun k ⟨hk,i⟩=> ?_
 refine kW ?_;refine kC (fun hb=> ?_) fun hb=> ?_
 ·have r:k<a.length:=by simpa [ak] using hb
  obtain ⟨p,hg⟩: ∃x,a[k]? =some x:=⟨_,gA1 r⟩
  obtain ⟨q,C⟩: ∃x,b[k]? =some x:=⟨_,gA1 (by omega)⟩
  refine kW ?_;refine kP [.c [.str p.1,.str p.2],.c [.str q.1,.str q.2]] ?_ ?_
  ·((repeat' apply aI)<;>first|exact kD|(intro R;refine ⟨?_,kG⟩;(repeat' apply aI)<;>first|exact kD|skip)|skip)
   all_goals first|exact bY hg|exact bY C|exact JH _ _ _ _|skip
  rw [BF];refine kC (fun hb=> ?_) fun hb=> ?_
  ·have g:a≠b:=by
    rintro rfl;rw [hg] at C;cases C;simp at hb
   refine kW ?_;refine aR ⟨_,rfl,?_⟩;rw [decide_eq_false g];rfl
  ·have J:p.1=q.1∧p.2=q.2:=by simpa using hb
   have I:p=q:=Prod.ext J.1 J.2;refine kW ?_
   exact AK.lp ⟨k+1,⟨by omega,fun j h=>by
    by_cases e:j=k
    ·subst e;rw [hg,C,I]
    ·exact i j (by omega)⟩,wO ⟨kI,kI,kI,kU,trivial⟩ trivial rfl rfl,by omega⟩
 ·have r:a.length≤k:=by simpa [ak] using hb
  have I:a=b:=List.ext_getElem? fun j=>by
   by_cases h:j<k
   ·exact i j h
   ·rw [List.getElem?_eq_none (by omega),List.getElem?_eq_none (by omega)]
  refine AK.exit rfl ?_;refine kW ?_;refine aR ⟨_,rfl,?_⟩;rw [decide_eq_true I];rfl
end
section
set_option maxRecDepth 100000
set_option maxHeartbeats 20000000
def xV:List Nat:= []
noncomputable def BG:ACode:=bK Tryz.prog xV Tryz.f22
noncomputable def BH:AFn:=⟨2,29,BG,[.cell 4 6 true,.tmp 5]⟩
theorem vt:ar Tryz.prog xV Tryz.f22=some BH:=kk
theorem vu:ab Tryz.prog 22=true:=kk
end
section
open Go.RowKit
theorem Ia (v:V) (key:ByteArray) (hsz:v.size≤2000000000000):AC Tryz.prog 22 [(vA (v)),.str key] (Lt (bh key v.m)):=by
 have C:=v.size_eq;have I:=bz v.m;refine kE Tryz.func22 vt vu fun E J=> ?_
 refine kW ?_;refine aJ (fun k:Nat=>(ax [(1,.str key),(2,.ptr 2 0),(4,.ptr 4 0),(6,.int .i64 k)],⟨ah [(2,(vC (v)),false),(4,[.int .i64 0,.bool false,.int .i64 0,.str ⟨#[]⟩,.lst .nil 6 [],.lst .nil 7 []],false)],fun _=>0⟩)) (fun k=>k≤v.m.length∧ ∀j p,j<k→v.m[j]? =some p→p.1≠key) (fun k=>v.m.length-k) 0 ⟨by omega,fun j p h=>by omega⟩ (wO ⟨kI,kI,kI,kI,trivial⟩ ⟨kJ,kJ,trivial⟩ rfl rfl) fun k ⟨P,hr⟩=> ?_
 refine kW ?_;refine kC (fun hb=> ?_) fun hb=> ?_
 ·have g:k<v.m.length:=by simpa [au] using hb
  obtain ⟨⟨y,x⟩,hg⟩: ∃x,v.m[k]? =some x:=⟨_,gA1 g⟩
  refine kW ?_;refine kP [.c (.str y::(vC (x)))] ?_ ?_
  ·((repeat' apply aI)<;>first|exact kD|(intro i;refine ⟨?_,kG⟩;(repeat' apply aI)<;>first|exact kD|skip)|skip)
   ·exact bm hg
  refine kC (fun hb=> ?_) fun hb=> ?_
  ·have r:y=key:=by simpa using hb
   subst r;refine kW ?_;refine kP [.c (.str y::(vC (x)))] ?_ ?_
   ·((repeat' apply aI)<;>first|exact kD|(intro i;refine ⟨?_,kG⟩;(repeat' apply aI)<;>first|exact kD|skip)|skip)
    ·exact bm hg
   refine kW ?_;refine aR ⟨_,rfl,?_⟩;rw [Ao hr hg];rfl
  ·have r:y≠key:=by simpa using hb
   refine kW ?_;exact AK.lp ⟨k+1,⟨by omega,Jf hr hg r⟩,wO ⟨kI,kI,kI,kU,trivial⟩ ⟨kJ,kJ,trivial⟩ rfl rfl,by omega⟩
 ·have g:k=v.m.length:=by have:v.m.length≤k:=by simpa [au] using hb
                          omega
  subst g;refine AK.exit rfl ?_;refine kW ?_;refine aR ⟨_,rfl,?_⟩;rw [ut hr];rfl
end
section
set_option maxRecDepth 100000
set_option maxHeartbeats 20000000
def mg:List Nat:= [2000040,2000041,2000043,2000010,2000026,2000083,2000011]
noncomputable def dS:ACode:=bK Tryz.prog mg Tryz.f40
noncomputable def oe:AFn:=⟨2,68,dS,[.tmp 4]⟩
theorem kq:ar Tryz.prog mg Tryz.f40=some oe:=kk
theorem kr:ab Tryz.prog 40=true:=kk
noncomputable def en:ACode:=bK Tryz.prog mg Tryz.f41
noncomputable def pu:AFn:=⟨2,28,en,[.tmp 4]⟩
theorem lF:ar Tryz.prog mg Tryz.f41=some pu:=kk
theorem lG:ab Tryz.prog 41=true:=kk
noncomputable def wD:ACode:=bK Tryz.prog mg Tryz.f7
noncomputable def wE:AFn:=⟨1,25,wD,[.tmp 2]⟩
theorem qN:ar Tryz.prog mg Tryz.f7=some wE:=kk
theorem qO:ab Tryz.prog 7=true:=kk
end
section
open Go.RowKit
theorem lH:V.null.checkC=0:=by decide+kernel
theorem Ib (s:ByteArray):((bi s).2=0∧(bi s).1.checkC=0)∨((bi s).2≠0∧(bi s).1=V.null):=by
 unfold bi Da;split
 ·exact .inr ⟨by decide,rfl⟩
 split
 ·exact .inr ⟨by decide,rfl⟩
 split
 ·exact .inl ⟨rfl,lH⟩
 dsimp only;split
 ·rename_i h;exact .inr ⟨h,rfl⟩
 split
 ·exact .inr ⟨by decide,rfl⟩
 split
 ·rename_i h;exact .inr ⟨h,rfl⟩
 ·rename_i h;exact .inl ⟨rfl,by simpa using h⟩
theorem og (s:ByteArray):(bi s).1.good∧(bi s).1.size≤4096:=by
 rcases Ib s with ⟨_,h⟩|⟨_,h⟩
 ·exact ⟨(V.check_good h).1,(V.check_good h).2.1⟩
 ·rw [h];exact ⟨(V.check_good lH).1,(V.check_good lH).2.1⟩
theorem Ic {v:V} (h:v.good) {p:ByteArray×V} (i:p∈v.m):p.1.size≤256∧p.2.good:=by
 have g:=(xq v.m).1 ((V.good_eq v).1 h).2.2.2.1 p i;have:=g.1;simp only [yv,gA9,gB0] at this;exact ⟨this.2.2,g.2⟩
theorem F1 {s:ByteArray} (h:eZ s=true):s.size≤65536:=by
 simp only [eZ,gA9,gB0] at h;exact h.2
end
end Go.Proofs.YtbgflifmanjpjaaGreatDoor
