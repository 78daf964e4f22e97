/- Part 13. -/
import Derived.Test.YtbgflifmanjpjaaGreatDoorS12
set_option linter.unusedSimpArgs false
set_option linter.unusedVariables false
namespace Go.Proofs.YtbgflifmanjpjaaGreatDoor
section
open Go.RowKit
theorem rB (s:ByteArray) (c:Int):AC Tryz.prog 101 [.str s,.int .u8 c] (.int .i64 (Lib.indexByte s.data.toList c.toNat.toUInt8)):=by
 refine ⟨by kernel_rfl,fun σ w vs g hr hg=> ?_⟩;have hl:vs.length=2:=hr.1
 obtain ⟨v1,v2,rfl⟩: ∃a b,vs= [a,b]:=by
  rcases vs with _|⟨a,_|⟨b,_|⟨d,l⟩⟩⟩<;>simp at hl
  exact ⟨a,b,rfl⟩
 have i:Rel1 σ v1 (.str s):=hr.2 0 v1 _ rfl rfl;have j:Rel1 σ v2 (.int .u8 c):=hr.2 1 v2 _ rfl rfl;cases i;cases j;refine (Tryz.strings_IndexByte s c w).mono ?_;rintro e w' ⟨rfl,rfl⟩;exact ⟨σ,_,rfl,Ext.refl _ _,g,Below.refl _ _,.int _ _⟩
theorem Hg (c:Nat):AC Tryz.prog 99 [.int .u8 c] (.bool (Fs c)):=by
 refine kE Tryz.func99 nG nH fun E g=> ?_
 refine kW ?_;refine kQ [] ?_;refine kW ?_;refine aR ⟨_,rfl,?_⟩;refine congrArg AV.bool ?_;rw [Bool.eq_iff_iff];simp only [Fs,Bool.or_eq_true,gA9,gB0];omega
theorem Em (c:Nat):AC Tryz.prog 100 [.int .u8 c] (.bool (decide (48≤c)&&decide (c≤57))):=by
 refine kE Tryz.func100 oX oY fun E g=> ?_
 refine kW ?_;refine kQ [] ?_;refine kW ?_;refine aR ⟨_,rfl,?_⟩;refine congrArg AV.bool ?_;rw [Bool.eq_iff_iff];simp only [gA9,gB0];omega
end
section
open Go.RowKit
theorem Hh:(List.range 256).all (fun c=>decide (Lib.indexByte [95,45,46,47] (c:Int).toNat.toUInt8<0)== !(decide (c=95)||decide (c=45)||decide (c=46)||decide (c=47)))=true:=kk
theorem LV {c:Nat} (h:c<256):decide (Lib.indexByte [95,45,46,47] (c:Int).toNat.toUInt8<0)= !(decide (c=95)||decide (c=45)||decide (c=46)||decide (c=47)):=
 eq_of_beq (List.all_eq_true.1 Hh c (List.mem_range.2 h))
theorem Hi {s:ByteArray} (h:s.size=0):s=⟨#[]⟩:=by
 cases s with
 |mk d=>exact congrArg ByteArray.mk (Array.eq_empty_of_size_eq_zero h)
theorem Hj (s:ByteArray) (hs:s.size≤140737488355328):AC Tryz.prog 53 [.str s] (.bool (cK s)):=by
 refine kE Tryz.func53 qh qi fun E hE=> ?_
 refine kW ?_;refine aJ (fun k:Nat=>(ax [(0,.str s),(6,.int .i64 s.size),(7,.int .i64 k)],⟨ah [],fun _=>0⟩)) (fun k=>k≤s.size∧ ∀j,(h:j<s.size)→j<k→eL j s[j].toNat=true) (fun k=>s.size-k) 0 ⟨by omega,fun j h I=>by omega⟩ (wO ⟨kI,kI,kI,trivial⟩ trivial rfl rfl) fun k ⟨hk,r⟩=> ?_
 refine kW ?_;refine kC (fun hb=> ?_) fun hb=> ?_
 ·have p:k<s.size:=by simpa using hb
  have J:s[k].toNat<256:=s[k].toNat_lt;refine kW ?_;refine kQ [] ?_;rw [show s.data.getD (k:Int).toNat 0=s[k] from jz p];refine kW ?_;refine kP [.v (.bool (Fs s[k].toNat)),.v (.bool (decide (48≤s[k].toNat)&&decide (s[k].toNat≤57))),.v (.int .i64 (Lib.indexByte [95,45,46,47] ((s[k].toNat:Nat):Int).toNat.toUInt8))] ?_ ?_
  ·((repeat' apply aI)<;>first|exact kD|(intro P;refine ⟨?_,kG⟩;(repeat' apply aI)<;>first|exact kD|skip)|skip)
   all_goals first|exact Hg _|exact Em _|exact rB ⟨#[95,45,46,47]⟩ _
  rw [LV J];refine kC (fun hb=> ?_) fun hb=> ?_
  ·have R:eL k s[k].toNat=false:=by
    simp only [Bool.or_eq_true,gA9,Bool.not_eq_true',Bool.or_eq_false_iff,Bool.and_eq_false_iff,gB0,decide_eq_false_iff_not] at hb;simp only [eL,AH,Bool.or_eq_false_iff,Bool.and_eq_false_iff,Bool.not_eq_false',gB0,decide_eq_false_iff_not];refine ⟨hb.1,?_⟩;omega
   refine kW ?_;refine aR ⟨_,rfl,?_⟩;rw [AJ p R];rfl
  ·have ht:eL k s[k].toNat=true:=by
    simp only [Bool.or_eq_true,gA9,Bool.not_eq_false',Bool.or_eq_false_iff,Bool.and_eq_false_iff,gB0,decide_eq_false_iff_not] at hb;simp only [eL,AH,Bool.or_eq_true,gA9,Bool.not_eq_true',gB0,decide_eq_false_iff_not];rcases hb with hb|hb
    ·exact .inl hb
    ·refine .inr ?_
     omega
   refine kW ?_
   exact AK.lp ⟨k+1,⟨by omega,fun j h I=>by
    by_cases e:j=k
    ·subst e;exact ht
    ·exact r j h (by omega)⟩,wO ⟨kI,kI,kU,trivial⟩ trivial rfl rfl,by omega⟩
 ·have p:s.size≤k:=by simpa using hb
  have C:decide (∀k,(h:k<s.size)→eL k s[k].toNat=true)=true:=decide_eq_true fun j h=>r j h (by omega)
  have i: ∀t:ByteArray,fc t=true→s=t→cK s=false:=fun t ht e=>by rw [e,cK,ht];rfl
  refine AK.exit rfl ?_;refine kW ?_;refine kC (fun hb=> ?_) fun hb=> ?_
  ·have e:s=⟨#[]⟩:=gB3 hb
   have g:=hb;refine kW ?_;refine kC (fun hb=> ?_) fun hb=> ?_
   ·refine kW ?_
    refine aR ⟨_,rfl,?_⟩;rw [i _ (by kernel_rfl) e];rfl
   ·rw [g] at hb
    cases hb
  have T:s≠⟨#[]⟩:=gB4 hb;refine kW ?_;refine kC (fun hb=> ?_) fun hb=> ?_
  ·have e:s=⟨#[110,117,108,108]⟩:=gB3 hb
   have g:=hb;refine kW ?_;refine kC (fun hb=> ?_) fun hb=> ?_
   ·refine kW ?_
    refine aR ⟨_,rfl,?_⟩;rw [i _ (by kernel_rfl) e];rfl
   ·rw [g] at hb
    cases hb
  have U:s≠⟨#[110,117,108,108]⟩:=gB4 hb;refine kW ?_;refine kC (fun hb=> ?_) fun hb=> ?_
  ·have e:s=⟨#[116,114,117,101]⟩:=gB3 hb
   have g:=hb;refine kW ?_;refine kC (fun hb=> ?_) fun hb=> ?_
   ·refine kW ?_
    refine aR ⟨_,rfl,?_⟩;rw [i _ (by kernel_rfl) e];rfl
   ·rw [g] at hb
    cases hb
  have n2:s≠⟨#[116,114,117,101]⟩:=gB4 hb;refine kW ?_;refine kC (fun hb=> ?_) fun hb=> ?_
  ·have e:s=⟨#[102,97,108,115,101]⟩:=gB3 hb
   refine kW ?_;refine aR ⟨_,rfl,?_⟩;rw [i _ (by kernel_rfl) e];rfl
  have n3:s≠⟨#[102,97,108,115,101]⟩:=gB4 hb;refine kW ?_;refine aR ⟨_,rfl,?_⟩;have hz:s.size≠0:=fun h=>T (Hi h)
  have hw:fc s=false:=by
   unfold fc;rw [decide_eq_false hz,decide_eq_false U,decide_eq_false n2,decide_eq_false n3];rfl
  have:cK s=true:=by
   rw [cK,hw,C];rfl
  rw [this];rfl
end
end Go.Proofs.YtbgflifmanjpjaaGreatDoor
