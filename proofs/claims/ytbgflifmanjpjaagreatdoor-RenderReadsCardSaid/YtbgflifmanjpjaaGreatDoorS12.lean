/- Part 12. -/
import Derived.Test.YtbgflifmanjpjaaGreatDoorS11
import Derived.Lib.Strings
import Derived.BigQuiet
set_option linter.unusedSimpArgs false
set_option linter.unusedVariables false
namespace Go.Proofs.YtbgflifmanjpjaaGreatDoor
open Go.RowKit
theorem sz0 (s:ByteArray):s=ByteArray.empty↔s.size=0:=by
 refine ⟨fun h=>by subst h;rfl,fun h=> ?_⟩;cases s with
 |mk a=>
  have:a= #[]:=Array.eq_empty_of_size_eq_zero h;subst this;rfl
theorem pM {σ:Sg} {vs:List Value} {a b:AV} (hr:RelPs σ vs [a,b]): ∃x y,vs= [x,y]∧RelP σ x a∧RelP σ y b:=by
 have hl:vs.length=2:=hr.1
 obtain ⟨v1,v2,rfl⟩: ∃a b,vs= [a,b]:=by
  rcases vs with _|⟨a,_|⟨b,_|⟨d,l⟩⟩⟩<;>simp at hl
  exact ⟨a,b,rfl⟩
 exact ⟨v1,v2,rfl,hr.2 0 v1 _ rfl rfl,hr.2 1 v2 _ rfl rfl⟩
theorem vZ (l:List UInt8) (c:UInt8):(Lib.indexByte l c= -1∧c∉l)∨ ∃i:Nat,Lib.indexByte l c=i∧i<l.length∧l[i]? =some c∧c∉l.take i:=by
 induction l with
 |nil=>exact .inl ⟨rfl,by simp⟩
 |cons b l ih=>
  rw [Lib.indexByte];by_cases h:b=c
  ·subst h
   exact .inr ⟨0,by simp,by simp,rfl,by simp⟩
  ·rw [if_neg (by simpa using h)]
   rcases ih with ⟨g,j⟩|⟨i,g,j,p,r⟩
   ·exact .inl ⟨by rw [g];rfl,by simp [j,Ne.symm h]⟩
   ·refine .inr ⟨i+1,?_,by simp;omega,by simpa using p,by simp [r,Ne.symm h]⟩
    rw [g,if_neg (by simp)];simp
def V.str (s:ByteArray):V:= .mk 3 false 0 s [] []
def V.int (n:Int):V:= .mk 2 false n ⟨#[]⟩ [] []
theorem ep (s:ByteArray):AC Tryz.prog 45 [.str s] ((vA ((V.str s)))):=by
 refine kE Tryz.func45 xC xD fun E g=> ?_
 refine kW ?_;refine aR ⟨_,rfl,?_⟩;rfl
theorem Hg (n:Int):AC Tryz.prog 37 [.int .i64 n] ((vA ((V.int n)))):=by
 refine kE Tryz.func37 xK xL fun E g=> ?_
 refine kW ?_;refine aR ⟨_,rfl,?_⟩;rfl
theorem MY (neg:Bool):zA Tryz.prog neg 216 .nilIface .nilIface true:=by
 intro w x y g
 have hg:(eqGuard (lD neg) 216 x y .nilIface .nilIface).run Tryz.prog w= .ok () w:=by
  cases x<;>cases y<;>first|(cases g;done)|(cases neg<;>simp [go_sem,eqGuard,lD])
 cases neg
 ·exact ⟨hg,by simp [go_sem,lD]⟩
 ·exact ⟨hg,by simp [go_sem,lD]⟩
end Go.Proofs.YtbgflifmanjpjaaGreatDoor
namespace Go.Proofs.YtbgflifmanjpjaaGreatDoor
set_option maxRecDepth 100000
set_option maxHeartbeats 20000000
def bM:List Nat:= []
noncomputable def Aa:ACode:=bK Tryz.prog bM Tryz.f118
noncomputable def Ab:AFn:=⟨1,35,Aa,[.tmp 2]⟩
theorem tq:aq Tryz.prog bM Tryz.f118=some Ab:=kk
theorem tu:ab Tryz.prog 118=true:=kk
noncomputable def Ac:ACode:=bK Tryz.prog bM Tryz.f14
noncomputable def Ad:AFn:=⟨2,106,Ac,[.tmp 4]⟩
theorem tv:aq Tryz.prog bM Tryz.f14=some Ad:=kk
theorem tw:ab Tryz.prog 14=true:=kk
noncomputable def Ae:ACode:=bK Tryz.prog bM Tryz.f69
noncomputable def Af:AFn:=⟨1,38,Ae,[.tmp 2]⟩
theorem tz:aq Tryz.prog bM Tryz.f69=some Af:=kk
theorem tC:ab Tryz.prog 69=true:=kk
noncomputable def xN:ACode:=bK Tryz.prog bM Tryz.f68
noncomputable def xO:AFn:=⟨1,45,xN,[.tmp 2]⟩
theorem qS:aq Tryz.prog bM Tryz.f68=some xO:=kk
theorem qT:ab Tryz.prog 68=true:=kk
noncomputable def B5:ACode:=bK Tryz.prog bM Tryz.f119
noncomputable def B6:AFn:=⟨1,28,B5,[.tmp 2]⟩
theorem v6:aq Tryz.prog bM Tryz.f119=some B6:=kk
theorem v7:ab Tryz.prog 119=true:=kk
noncomputable def xP:ACode:=bK Tryz.prog bM Tryz.f70
noncomputable def xQ:AFn:=⟨1,129,xP,[.tmp 2]⟩
theorem qU:aq Tryz.prog bM Tryz.f70=some xQ:=kk
theorem qW:ab Tryz.prog 70=true:=kk
noncomputable def xR:ACode:=bK Tryz.prog bM Tryz.f34
noncomputable def xS:AFn:=⟨1,11,xR,[.tmp 2]⟩
theorem qX:aq Tryz.prog bM Tryz.f34=some xS:=kk
theorem qY:ab Tryz.prog 34=true:=kk
end Go.Proofs.YtbgflifmanjpjaaGreatDoor
namespace Go.Proofs.YtbgflifmanjpjaaGreatDoor
open Go.RowKit
theorem Hh (s:ByteArray) (p:s.size≤140737488355328):AC Tryz.prog 118 [.str s] (.bool (dE s)):=by
 refine kE Tryz.func118 tq tu fun E r=> ?_
 refine kW ?_;refine aJ (fun k:Nat=>(ar [(0,.str s),(3,.int .i64 k)],⟨ag [],fun _=>0⟩)) (fun k=>k≤s.size∧sr okT s k) (fun k=>s.size-k) 0 ⟨by omega,jS _ _⟩ (wO ⟨kI,kI,trivial⟩ trivial rfl rfl) fun k ⟨C,i⟩=> ?_
 refine kW ?_;refine kC (fun hb=> ?_) fun hb=> ?_
 ·have g:k<s.size:=by simpa using hb
  refine kW ?_;refine kQ [] ?_;rw [show s.data.getD (k:Int).toNat 0=s[k] from io g];refine kC (fun hb=> ?_) fun hb=> ?_
  ·refine kW ?_
   refine aR ⟨_,rfl,?_⟩
   have j:okT s[k]=false:=by
    simp only [Bool.or_eq_true,gA9,Bool.not_eq_true',gB0,decide_eq_false_iff_not] at hb;simp only [okT,Bool.or_eq_false_iff,Bool.and_eq_false_iff,decide_eq_false_iff_not,beq_eq_false_iff_ne,ne_eq];omega
   rw [dE,jU g j];rfl
  ·have ht:okT s[k]=true:=by
    simp only [Bool.or_eq_false_iff,Bool.and_eq_false_iff,Bool.not_eq_false',gB0,decide_eq_false_iff_not] at hb;simp only [okT,Bool.or_eq_true,gA9,gB0,beq_iff_eq];omega
   refine kW ?_;exact AK.lp ⟨k+1,⟨by omega,jT i g ht⟩,wO ⟨kI,kU,trivial⟩ trivial rfl rfl,by omega⟩
 ·have g:k=s.size:=by have:s.size≤k:=by simpa using hb
                      omega
  subst g;refine AK.exit rfl ?_;refine kW ?_;refine aR ⟨_,rfl,?_⟩;show AV.bool _=AV.bool _;refine congrArg AV.bool ?_;rw [dE,mA i,Bool.eq_iff_iff];simp
  try omega
end Go.Proofs.YtbgflifmanjpjaaGreatDoor
namespace Go.Proofs
open Go.Shelf Go.RowKit
def Tryz.layh167_ren:Go.Shelf.Ren:=⟨fun|167=>230|240=>228|276=>255|n=>n,fun|37=>118|70=>117|72=>120|75=>216|80=>127|164=>278|n=>n,fun|n=>n⟩
theorem Tryz.layh167:Go.Proofs.Lays.n167 Tryz.prog Tryz.layh167_ren:=⟨by kernel_rfl,Tryz.func230.trans (congrArg some (by kernel_rfl)),Tryz.func228.trans (congrArg some (by kernel_rfl)),Tryz.func255.trans (congrArg some (by kernel_rfl)),Tryz.underlying0,Tryz.isAgg0,Tryz.sizeOf0,Tryz.zeroValue0,Tryz.underlying4,Tryz.isAgg4,Tryz.sizeOf4,Tryz.zeroValue4,Tryz.underlying5,Tryz.isAgg5,Tryz.sizeOf5,Tryz.zeroValue5,Tryz.underlying9,Tryz.isAgg9,Tryz.sizeOf9,Tryz.zeroValue9,Tryz.underlying20,Tryz.isAgg20,Tryz.sizeOf20,Tryz.zeroValue20,Tryz.underlying118,Tryz.isAgg118,Tryz.sizeOf118,Tryz.zeroValue118,Tryz.underlying117,Tryz.isAgg117,Tryz.sizeOf117,Tryz.zeroValue117,Tryz.underlying120,Tryz.isAgg120,Tryz.sizeOf120,Tryz.zeroValue120,Tryz.underlying216,Tryz.isAgg216,Tryz.sizeOf216,Tryz.zeroValue216,Tryz.underlying278,Tryz.isAgg278,Tryz.sizeOf278,Tryz.zeroValue278⟩
theorem Tryz.Builder_Extra_h:Builder.Extra Tryz.prog Tryz.layh167_ren:={
 sizeBuilder:=by kernel_rfl
 liesBuilder:=by kernel_rfl
 t5:=Tryz.underlying5
 a5:=Tryz.isAgg5
 z5:=Tryz.sizeOf5
 v5:=Tryz.zeroValue5
 infoByte:=by kernel_rfl
 cellsByte:=by kernel_rfl
 sizeByte:=by kernel_rfl
 neB5:=by decide}
theorem Tryz.writeByte_h (B b:Nat) (g:List Value) (c:Int) (w:World) (h:Lib.IsBuilder 120 5 B b g w) (hlen:g.length+1≤140737488355328) (i:B≤w.heap.size):
  Calls Tryz.prog 230 #[.pointer (some ⟨b,0,none⟩),.int .u8 c] w fun e w' =>e= .returned .nilIface∧(Lib.BuilderAt 120 5 B b (.pointer (some ⟨b,0,none⟩)) (g++ [.int .u8 c]) w' ∧Below B w w'):=Any.Builder_WriteByte Tryz.layh167 Tryz.Builder_Extra_h B b g c w h hlen i
end Go.Proofs
