/- Part 15. -/
import Derived.Test.YtbgflifmanjpjaaGreatDoorS14
import Derived.Lib.ParseIntBTie
set_option linter.unusedSimpArgs false
set_option linter.unusedVariables false
namespace Go.Proofs.YtbgflifmanjpjaaGreatDoor
section
open Go.RowKit
def gc (s p:ByteArray):Bool:=decide (p.size≤s.size)&&decide (s.extract 0 p.size=p)
theorem Ai (s p:ByteArray):AC Tryz.prog 86 [.str s,.str p] (.bool (gc s p)):=by
 refine kE Tryz.func86 gH gI fun E i=> ?_
 refine kW ?_;refine kP [] ?_ ?_
 ·((repeat' apply aI)<;>first|exact kD|(intro g;refine ⟨?_,kG⟩;(repeat' apply aI)<;>first|exact kD|skip)|skip)
  simpa [gd] using g
 refine kW ?_;refine aR ⟨_,rfl,?_⟩;refine congrArg AV.bool ?_;rw [gc];simp
theorem sB (s p:ByteArray):AC Tryz.prog 42 [.str s,.str p] (.bool (gc s p)):=by
 have h:=Ai s p;refine kE Tryz.func42 jY jZ fun E g=> ?_
 refine kW ?_;refine kQ [.v (.bool (gc s p))] ?_;refine kW ?_;refine aR ⟨_,rfl,?_⟩;rfl
def fC (s p:ByteArray):ByteArray:=if gc s p=true then s.extract p.size s.size else s
theorem Jl (s p:ByteArray):AC Tryz.prog 102 [.str s,.str p] (.str (fC s p)):=by
 have h:=Ai s p;refine kE Tryz.func102 fZ f7 fun E j=> ?_
 refine kW ?_;refine kQ [.v (.bool (gc s p))] ?_;refine kC (fun hb=> ?_) fun hb=> ?_
 ·have g:gc s p=true:=by simpa using hb
  have i:p.size≤s.size:=by
   simp only [gc,gA9,gB0] at g;exact g.1
  refine kW ?_;refine kQ [] ?_;refine kW ?_;refine aR ⟨_,rfl,?_⟩;rw [fC,if_pos g];rfl
 ·have g:gc s p=false:=by simpa using hb
  refine kW ?_;refine aR ⟨_,rfl,?_⟩;rw [fC,g];rfl
theorem Jm (s p:ByteArray):AC Tryz.prog 54 [.str s,.str p] (.str (fC s p)):=by
 have h:=Jl s p;refine kE Tryz.func54 i6 i7 fun E g=> ?_
 refine kW ?_;refine kQ [.v (.str (fC s p))] ?_;refine kW ?_;refine aR ⟨_,rfl,?_⟩;rfl
def okD (c:UInt8):Bool:=decide (48≤c.toNat)&&decide (c.toNat≤57)
def tF (s:ByteArray):Bool:=zP okD (fC s ⟨#[45]⟩)&&decide (1≤(fC s ⟨#[45]⟩).size)
theorem yP (s p:ByteArray):(fC s p).size≤s.size:=by
 unfold fC;split
 ·rw [ByteArray.size_extract];omega
 ·omega
theorem Cb (s:ByteArray) (P:s.size≤140737488355328):AC Tryz.prog 181 [.str s] (.bool (tF s)):=by
 have h:=Jm s ⟨#[45]⟩;have j:=yP s ⟨#[45]⟩;have hn:tF s=(zP okD (fC s ⟨#[45]⟩)&&decide (1≤(fC s ⟨#[45]⟩).size)):=rfl;refine kE Tryz.func181 oy oz fun E R=> ?_
 refine kW ?_;refine kQ [.v (.str (fC s ⟨#[45]⟩))] ?_;generalize fC s ⟨#[45]⟩=s at*;refine kW ?_;refine aJ (fun k:Nat=>(ar [(0,.str s),(7,.int .i64 s.size),(8,.int .i64 k)],⟨ag [],fun _=>0⟩)) (fun k=>k≤s.size∧sr okD s k) (fun k=>s.size-k) 0 ⟨by omega,jS _ _⟩ (wO ⟨kI,kI,kI,trivial⟩ trivial rfl rfl) fun k ⟨T,p⟩=> ?_
 refine kW ?_;refine kC (fun hb=> ?_) fun hb=> ?_
 ·have g:k<s.size:=by simpa using hb
  have r:=F1 s[k].toNat;refine kW ?_;refine kP [.v (.bool (okD s[k]))] ?_ ?_
  ·((repeat' apply aI)<;>first|exact kD|(intro C;refine ⟨?_,kG⟩;(repeat' apply aI)<;>first|exact kD|skip)|skip)
   rw [show s.data.getD (k:Int).toNat 0=s[k] from io g];exact r
  refine kC (fun hb=> ?_) fun hb=> ?_
  ·have I:okD s[k]=false:=by simpa using hb
   refine kW ?_;refine aR ⟨_,rfl,?_⟩;rw [hn,jU g I];rfl
  ·have ht:okD s[k]=true:=by simpa using hb
   refine kW ?_;exact AK.lp ⟨k+1,⟨by omega,jT p g ht⟩,wO ⟨kI,kI,kU,trivial⟩ trivial rfl rfl,by omega⟩
 ·have g:k=s.size:=by have:s.size≤k:=by simpa using hb
                      omega
  subst g;refine AK.exit rfl ?_;refine kW ?_;refine aR ⟨_,rfl,?_⟩;show AV.bool _=AV.bool _;refine congrArg AV.bool ?_;rw [hn,mA p,Bool.eq_iff_iff];by_cases j:s=ByteArray.empty
  ·have U:=(sz0 s).1 j
   have i:s=⟨#[]⟩:=j;simp [i,ByteArray.size]
  ·have J:1≤s.size:=by have:=mt (sz0 s).2 j;omega
   have i: ¬s=⟨#[]⟩:=j;simp [j,J]
   try first|exact i|exact ⟨fun h=>by have:=h.2;omega,fun h=>⟨i,by omega⟩⟩
def dbl:List UInt8→List UInt8→Option (List UInt8×List UInt8)
 | [],_=>none
 |c::l,out=>if c=34 then some (out,l) else if c=92 then (match l with
  | []=>none
  |d::l=>if d=110 then dbl l (out++ [10]) else if d=116 then dbl l (out++ [9]) else if d=34∨d=92 then dbl l (out++ [d]) else none)
  else if c=10∨c=9 then none else dbl l (out++ [c])
def sgl:List UInt8→List UInt8→Option (List UInt8×List UInt8)
 | [],_=>none
 |c::l,out=>if c=39 then (match l with
  | []=>some (out,[])
  |d::g=>if d=39 then sgl g (out++ [39]) else some (out,d::g))
  else sgl l (out++ [c])
theorem Cc (c:UInt8) (l out:List UInt8):dbl (c::l) out=if c=34 then some (out,l) else if c=92 then (match l with
  | []=>none
  |d::l=>if d=110 then dbl l (out++ [10]) else if d=116 then dbl l (out++ [9]) else if d=34∨d=92 then dbl l (out++ [d]) else none)
  else if c=10∨c=9 then none else dbl l (out++ [c]):=by
 cases l<;>simp only [dbl]
theorem Cd (c:UInt8) (l out:List UInt8):sgl (c::l) out=if c=39 then (match l with
  | []=>some (out,[])
  |d::g=>if d=39 then sgl g (out++ [39]) else some (out,d::g))
  else sgl l (out++ [c]):=by
 cases l<;>simp only [sgl]
def qV:Option (List UInt8×List UInt8)→Value
 |none=> .tuple #[.string ⟨#[]⟩,.string ⟨#[]⟩,.int .i64 11]
 |some (a,b)=> .tuple #[.string ⟨a.toArray⟩,.string ⟨b.toArray⟩,.int .i64 0]
def qA:Option (List UInt8×List UInt8)→AV
 |none=> .tup [.str ⟨#[]⟩,.str ⟨#[]⟩,.int .i64 11]
 |some (a,b)=> .tup [.str ⟨a.toArray⟩,.str ⟨b.toArray⟩,.int .i64 0]
theorem gp {s:ByteArray} {k:Nat} (h:k<s.size):s.data.toList.drop k=s[k]::s.data.toList.drop (k+1):=by
 have g:k<s.data.toList.length:=h;rw [List.drop_eq_getElem_cons g];rfl
theorem fk (s:ByteArray):s.data.toList.drop s.size= []:=by
 rw [List.drop_eq_nil_iff];exact gA4 _
theorem Aj (s:ByteArray) (k:Nat):s.extract k s.size=⟨(s.data.toList.drop k).toArray⟩:=by
 rw [Lib.extract_eq,List.take_of_length_le];rw [gA6];exact gA4 _
theorem ef (l:List UInt8) (c:UInt8):Lib.byteCells (l++ [c])=Lib.byteCells l++ [.int .u8 c.toNat]:=by simp [Lib.byteCells]
structure WdC (C:World→Prop) where
 w:World
 h:C w
theorem fd {P:Program} {id:Nat} {Q:Exit→Act→World→Prop} {a:Act} {w:World} {l:List Oper} (C:World→Prop) (g:P.follows .mixedOrders=true) (i:Region.lexB .any l.toArray=true) (j:C {w with drawn:=w.drawn+1})
  (h:wpQuiet P l.toArray (fun w' => ∃p:WdC C,w' =p.w) (fun r=> ∀w',(∃p:WdC C,w' =p.w)→Q .normal r w') l a):(Code.region id l.toArray true).wp P Q a w:=
 wp_region_quiet (C:=fun w' => ∃p:WdC C,w' =p.w) g i ⟨⟨_,j⟩,rfl⟩ (by simpa using h)
set_option maxRecDepth 100000 in
theorem Er (s:ByteArray) (hs:s.size≤1000000) (h1s:1≤s.size) (R:Option (List UInt8×List UInt8)) (hR:dbl (s.data.toList.drop 1) []=R) (w:World):Calls Tryz.prog 178 #[.string s] w fun e w' =>e= .returned (qV R)∧Below w.heap.size w w' :=by
 have hR:=Lib.hid hR
 go_enter Tryz.func178,Tryz.ntmps178
 go_wp2_with fail
 go_loopw [6] (fun i wr=> ∃(k:Nat) (out:List UInt8),k≤s.size∧out.length≤k∧i= .int .i64 k∧Lib.IsBuilder 120 5 w.heap.size w.heap.size (Lib.byteCells out) wr∧Below w.heap.size w wr∧Hid (dbl (s.data.toList.drop k) out=R)) (fun i _=>s.size-(intOf i).toNat)
 case atStart=>exact ⟨1,[],by omega,by simp,rfl,Lib.fresh_isBuilder 120 5 w,(Below.refl _ _).alloc (gA4 _) _,hR⟩
 case round=>
  obtain ⟨k,out,hk,hol,rfl,hB,U,hD⟩:=hrel;have hbs:(Lib.byteCells out).length=out.length:=List.length_map _;have hBw:w.heap.size≤wr.heap.size:=U.size;by_cases hlt:k<s.size
  ·have c256:s[k].toNat<256:=s[k].toNat_lt
   have g:=hD.out;rw [gp hlt,Cc] at g;clear hD;by_cases I:s[k]=34
   ·have t1:((s[k].toNat:Int)==34)=true:=by rw [I];rfl
    rw [if_pos I] at g;clear I;have g:=Lib.hid g
    go_wp2_with fail
    obtain ⟨C,hCd⟩: ∃C:World→Prop,C=fun w' =>Lib.IsBuilderF 120 5 w.heap.size w.heap.size (Lib.byteCells out) w' ∧Below w.heap.size w w' :=⟨_,rfl⟩
    have hC0:C {wr with drawn:=wr.drawn+1}:=by
     rw [hCd];exact ⟨Lib.IsBuilderF.of (hB.elim (fun h=> .inl h.drew) (fun h=> .inr h.drew)),U.drew⟩
    have cW: ∀w',C w' →Calls Tryz.prog 62 #[.pointer (some ⟨w.heap.size,0,none⟩)] w' fun e J=>e= .returned (.string ⟨out.toArray⟩)∧C J:=fun w' h=>by
     rw [hCd] at h⊢;refine (Tryz.Builder_String_any_f w.heap.size w.heap.size out w' h.1 h.2.size).mono ?_;rintro e J ⟨rfl,h1,h2⟩;exact ⟨rfl,h1,h.2.trans h2⟩
    have cX: ∀p:WdC C,Calls Tryz.prog 62 #[.pointer (some ⟨w.heap.size,0,none⟩)] p.w fun e J=>e= .returned (.string ⟨out.toArray⟩)∧ ∃q:WdC C,J=q.w:=fun p=>(cW p.w p.h).mono fun e J h=>⟨h.1,⟨J,h.2⟩,rfl⟩
    haveI:Nonempty (WdC C):=⟨⟨_,hC0⟩⟩
    have HC:=Lib.hid hCd;clear hCd;refine fd C (by kernel_rfl) (by kernel_rfl) hC0 ?_
    repeat (go_big_quiet_step (first|exact cX _))
    refine wpQuiet_nil ?_;rintro _ ⟨⟨w2,hw2⟩,rfl⟩;clear cW cX;rw [HC.out] at hw2;clear HC
    go_wp2
    go_ret3
    exact ⟨by rw [←g.out,qV,←Aj];rfl,hw2.2⟩
   have t1:((s[k].toNat:Int)==34)=false:=by rw [beq_eq_false_iff_ne];exact fun e=>I (UInt8.toNat_inj.1 (show s[k].toNat=34 by omega))
   rw [if_neg I] at g;clear I;by_cases P:s[k]=92
   ·have t2:((s[k].toNat:Int)==92)=true:=by rw [P];rfl
    rw [if_pos P] at g;clear P;by_cases he:k+1=s.size
    ·rw [he,fk] at g
     have he' :((k:Int)+1==s.size)=true:=beq_iff_eq.2 (by omega);have g:=Lib.hid g
     go_wp2_with fail
     go_ret3
     exact ⟨by rw [←g.out];rfl,U⟩
    ·have he' :((k:Int)+1==s.size)=false:=beq_eq_false_iff_ne.2 (by omega)
     have hlt2:k+1<s.size:=by omega
     rw [gp hlt2] at g;have d256:s[k+1].toNat<256:=s[k+1].toNat_lt;by_cases d110:s[k+1]=110
     ·have u1:((s[k+1].toNat:Int)==110)=true:=by rw [d110];rfl
      dsimp only at g;rw [if_pos d110] at g;clear d110;have g:=Lib.hid g
      go_wp2_with fail
      refine (Tryz.writeByte_h w.heap.size w.heap.size _ 10 wr hB (by omega) hBw).mono ?_;rintro e w2 ⟨rfl,h2,b2⟩
      go_wp2
      go_roundw
      case rel=>exact ⟨k+2,out++ [10],by omega,by rw [gA5,List.length_singleton];omega,by go_num,.inr (by rw [ef];exact h2),U.trans b2,g⟩
      case measure=>simp [intOf];omega
     have u1:((s[k+1].toNat:Int)==110)=false:=by rw [beq_eq_false_iff_ne];exact fun e=>d110 (UInt8.toNat_inj.1 (show s[k+1].toNat=110 by omega))
     dsimp only at g;rw [if_neg d110] at g;clear d110;by_cases d116:s[k+1]=116
     ·have u2:((s[k+1].toNat:Int)==116)=true:=by rw [d116];rfl
      rw [if_pos d116] at g;clear d116;have g:=Lib.hid g
      go_wp2_with fail
      refine (Tryz.writeByte_h w.heap.size w.heap.size _ 9 wr hB (by omega) hBw).mono ?_;rintro e w2 ⟨rfl,h2,b2⟩
      go_wp2
      go_roundw
      case rel=>exact ⟨k+2,out++ [9],by omega,by rw [gA5,List.length_singleton];omega,by go_num,.inr (by rw [ef];exact h2),U.trans b2,g⟩
      case measure=>simp [intOf];omega
     have u2:((s[k+1].toNat:Int)==116)=false:=by rw [beq_eq_false_iff_ne];exact fun e=>d116 (UInt8.toNat_inj.1 (show s[k+1].toNat=116 by omega))
     rw [if_neg d116] at g;clear d116;by_cases j:s[k+1]=34
     ·have u3:((s[k+1].toNat:Int)==34)=true:=by rw [j];rfl
      rw [if_pos (.inl j)] at g;clear j;have g:=Lib.hid g
      go_wp2_with fail
      refine (Tryz.writeByte_h w.heap.size w.heap.size _ s[k+1].toNat wr hB (by omega) hBw).mono ?_;rintro e w2 ⟨rfl,h2,b2⟩
      go_wp2
      go_roundw
      case rel=>exact ⟨k+2,out++ [s[k+1]],by omega,by rw [gA5,List.length_singleton];omega,by go_num,.inr (by rw [ef];exact h2),U.trans b2,g⟩
      case measure=>simp [intOf];omega
     have u3:((s[k+1].toNat:Int)==34)=false:=by rw [beq_eq_false_iff_ne];exact fun e=>j (UInt8.toNat_inj.1 (show s[k+1].toNat=34 by omega))
     by_cases T:s[k+1]=92
     ·have u4:((s[k+1].toNat:Int)==92)=true:=by rw [T];rfl
      rw [if_pos (.inr T)] at g;clear T j;have g:=Lib.hid g
      go_wp2_with fail
      refine (Tryz.writeByte_h w.heap.size w.heap.size _ s[k+1].toNat wr hB (by omega) hBw).mono ?_;rintro e w2 ⟨rfl,h2,b2⟩
      go_wp2
      go_roundw
      case rel=>exact ⟨k+2,out++ [s[k+1]],by omega,by rw [gA5,List.length_singleton];omega,by go_num,.inr (by rw [ef];exact h2),U.trans b2,g⟩
      case measure=>simp [intOf];omega
     have u4:((s[k+1].toNat:Int)==92)=false:=by rw [beq_eq_false_iff_ne];exact fun e=>T (UInt8.toNat_inj.1 (show s[k+1].toNat=92 by omega))
     rw [if_neg (fun e=>e.elim j T)] at g;clear j T;have g:=Lib.hid g
     go_wp2_with fail
     go_ret3
     exact ⟨by rw [←g.out];rfl,U⟩
   have t2:((s[k].toNat:Int)==92)=false:=by rw [beq_eq_false_iff_ne];exact fun e=>P (UInt8.toNat_inj.1 (show s[k].toNat=92 by omega))
   rw [if_neg P] at g;clear P;by_cases r:s[k]=10
   ·have t3:((s[k].toNat:Int)==10)=true:=by rw [r];rfl
    rw [if_pos (.inl r)] at g;clear r;have g:=Lib.hid g
    go_wp2_with fail
    go_ret3
    exact ⟨by rw [←g.out];rfl,U⟩
   have t3:((s[k].toNat:Int)==10)=false:=by rw [beq_eq_false_iff_ne];exact fun e=>r (UInt8.toNat_inj.1 (show s[k].toNat=10 by omega))
   by_cases h9:s[k]=9
   ·have t4:((s[k].toNat:Int)==9)=true:=by rw [h9];rfl
    rw [if_pos (.inr h9)] at g;clear r h9;have g:=Lib.hid g
    go_wp2_with fail
    go_ret3
    exact ⟨by rw [←g.out];rfl,U⟩
   have t4:((s[k].toNat:Int)==9)=false:=by rw [beq_eq_false_iff_ne];exact fun e=>h9 (UInt8.toNat_inj.1 (show s[k].toNat=9 by omega))
   rw [if_neg (fun e=>e.elim r h9)] at g;clear r h9;have g:=Lib.hid g
   go_wp2_with fail
   refine (Tryz.writeByte_h w.heap.size w.heap.size _ s[k].toNat wr hB (by omega) hBw).mono ?_;rintro e w2 ⟨rfl,h2,b2⟩
   go_wp2
   go_roundw
   case rel=>exact ⟨k+1,out++ [s[k]],by omega,by rw [gA5,List.length_singleton];omega,by go_num,.inr (by rw [ef];exact h2),U.trans b2,g⟩
   case measure=>simp [intOf];omega
  ·have he:k=s.size:=by omega
   have g:=hD.out;rw [he,fk] at g;clear hD;subst he;have g:=Lib.hid g
   go_wp2_with fail
   go_ret3
   exact ⟨by rw [←g.out];rfl,U⟩
set_option maxRecDepth 100000 in
theorem Es (s:ByteArray) (hs:s.size≤1000000) (h1s:1≤s.size) (R:Option (List UInt8×List UInt8)) (hR:sgl (s.data.toList.drop 1) []=R) (w:World):Calls Tryz.prog 179 #[.string s] w fun e w' =>e= .returned (qV R)∧Below w.heap.size w w' :=by
 have hR:=Lib.hid hR
 go_enter Tryz.func179,Tryz.ntmps179
 go_wp2_with fail
 go_loopw [6] (fun i wr=> ∃(k:Nat) (out:List UInt8),k≤s.size∧out.length≤k∧i= .int .i64 k∧Lib.IsBuilder 120 5 w.heap.size w.heap.size (Lib.byteCells out) wr∧Below w.heap.size w wr∧Hid (sgl (s.data.toList.drop k) out=R)) (fun i _=>s.size-(intOf i).toNat)
 case atStart=>exact ⟨1,[],by omega,by simp,rfl,Lib.fresh_isBuilder 120 5 w,(Below.refl _ _).alloc (gA4 _) _,hR⟩
 case round=>
  obtain ⟨k,out,hk,hol,rfl,hB,hW,hD⟩:=hrel;have hbs:(Lib.byteCells out).length=out.length:=List.length_map _;have hBw:w.heap.size≤wr.heap.size:=hW.size;by_cases hlt:k<s.size
  ·have c256:s[k].toNat<256:=s[k].toNat_lt
   have g:=hD.out;rw [gp hlt,Cd] at g;clear hD;by_cases I:s[k]=39
   ·have t1:((s[k].toNat:Int) !=39)=false:=by rw [I];rfl
    have t1' :((s[k].toNat:Int)==39)=true:=by rw [I];rfl
    rw [if_pos I] at g;clear I;by_cases he:k+1=s.size
    ·rw [he,fk] at g
     have he' :((k:Int)+1==s.size)=true:=beq_iff_eq.2 (by omega);have g:=Lib.hid g
     go_wp2_with fail
     obtain ⟨C,r⟩: ∃C:World→Prop,C=fun w' =>Lib.IsBuilderF 120 5 w.heap.size w.heap.size (Lib.byteCells out) w' ∧Below w.heap.size w w' :=⟨_,rfl⟩
     have P:C {wr with drawn:=wr.drawn+1}:=by
      rw [r];exact ⟨Lib.IsBuilderF.of (hB.elim (fun h=> .inl h.drew) (fun h=> .inr h.drew)),hW.drew⟩
     have cW: ∀w',C w' →Calls Tryz.prog 62 #[.pointer (some ⟨w.heap.size,0,none⟩)] w' fun e j=>e= .returned (.string ⟨out.toArray⟩)∧C j:=fun w' h=>by
      rw [r] at h⊢;refine (Tryz.Builder_String_any_f w.heap.size w.heap.size out w' h.1 h.2.size).mono ?_;rintro e j ⟨rfl,h1,h2⟩;exact ⟨rfl,h1,h.2.trans h2⟩
     have cX: ∀p:WdC C,Calls Tryz.prog 62 #[.pointer (some ⟨w.heap.size,0,none⟩)] p.w fun e j=>e= .returned (.string ⟨out.toArray⟩)∧ ∃q:WdC C,j=q.w:=fun p=>(cW p.w p.h).mono fun e j h=>⟨h.1,⟨j,h.2⟩,rfl⟩
     haveI:Nonempty (WdC C):=⟨⟨_,P⟩⟩
     have HC:=Lib.hid r;clear r;refine fd C (by kernel_rfl) (by kernel_rfl) P ?_
     repeat (go_big_quiet_step (first|exact cX _))
     refine wpQuiet_nil ?_;rintro _ ⟨⟨w2,T⟩,rfl⟩;clear cW cX;rw [HC.out] at T;clear HC
     go_wp2
     go_ret3
     exact ⟨by rw [←g.out,qV];rfl,T.2⟩
    ·have he' :((k:Int)+1==s.size)=false:=beq_eq_false_iff_ne.2 (by omega)
     have U:k+1<s.size:=by omega
     rw [gp U] at g;dsimp only at g;by_cases J:s[k+1]=39
     ·have u1:((s[k+1].toNat:Int) !=39)=false:=by rw [J];rfl
      rw [if_pos J] at g;clear J;have g:=Lib.hid g
      go_wp2_with fail
      refine (Tryz.writeByte_h w.heap.size w.heap.size _ 39 wr hB (by omega) hBw).mono ?_;rintro e w2 ⟨rfl,h2,b2⟩
      go_wp2
      go_roundw
      case rel=>exact ⟨k+2,out++ [39],by omega,by rw [gA5,List.length_singleton];omega,by go_num,.inr (by rw [ef];exact h2),hW.trans b2,g⟩
      case measure=>simp [intOf];omega
     ·have u1:((s[k+1].toNat:Int) !=39)=true:=by rw [bne_iff_ne];exact fun e=>J (UInt8.toNat_inj.1 (show s[k+1].toNat=39 by omega))
      rw [if_neg J] at g;clear J;have g:=Lib.hid g
      go_wp2_with fail
      obtain ⟨C,r⟩: ∃C:World→Prop,C=fun w' =>Lib.IsBuilderF 120 5 w.heap.size w.heap.size (Lib.byteCells out) w' ∧Below w.heap.size w w' :=⟨_,rfl⟩
      have P:C {wr with drawn:=wr.drawn+1}:=by
       rw [r];exact ⟨Lib.IsBuilderF.of (hB.elim (fun h=> .inl h.drew) (fun h=> .inr h.drew)),hW.drew⟩
      have cW: ∀w',C w' →Calls Tryz.prog 62 #[.pointer (some ⟨w.heap.size,0,none⟩)] w' fun e j=>e= .returned (.string ⟨out.toArray⟩)∧C j:=fun w' h=>by
       rw [r] at h⊢;refine (Tryz.Builder_String_any_f w.heap.size w.heap.size out w' h.1 h.2.size).mono ?_;rintro e j ⟨rfl,h1,h2⟩;exact ⟨rfl,h1,h.2.trans h2⟩
      have cX: ∀p:WdC C,Calls Tryz.prog 62 #[.pointer (some ⟨w.heap.size,0,none⟩)] p.w fun e j=>e= .returned (.string ⟨out.toArray⟩)∧ ∃q:WdC C,j=q.w:=fun p=>(cW p.w p.h).mono fun e j h=>⟨h.1,⟨j,h.2⟩,rfl⟩
      haveI:Nonempty (WdC C):=⟨⟨_,P⟩⟩
      have HC:=Lib.hid r;clear r;refine fd C (by kernel_rfl) (by kernel_rfl) P ?_
      repeat (go_big_quiet_step (first|exact cX _))
      refine wpQuiet_nil ?_;rintro _ ⟨⟨w2,T⟩,rfl⟩;clear cW cX;rw [HC.out] at T;clear HC
      go_wp2
      go_ret3
      exact ⟨by rw [←g.out,qV,←gp U,←Aj];rfl,T.2⟩
   have t1:((s[k].toNat:Int) !=39)=true:=by rw [bne_iff_ne];exact fun e=>I (UInt8.toNat_inj.1 (show s[k].toNat=39 by omega))
   rw [if_neg I] at g;clear I;have g:=Lib.hid g
   go_wp2_with fail
   refine (Tryz.writeByte_h w.heap.size w.heap.size _ s[k].toNat wr hB (by omega) hBw).mono ?_;rintro e w2 ⟨rfl,h2,b2⟩
   go_wp2
   go_roundw
   case rel=>exact ⟨k+1,out++ [s[k]],by omega,by rw [gA5,List.length_singleton];omega,by go_num,.inr (by rw [ef];exact h2),hW.trans b2,g⟩
   case measure=>simp [intOf];omega
  ·have he:k=s.size:=by omega
   have g:=hD.out;rw [he,fk] at g;clear hD;subst he;have g:=Lib.hid g
   go_wp2_with fail
   go_ret3
   exact ⟨by rw [←g.out];rfl,hW⟩
theorem Jn (σ:Sg) (R:Option (List UInt8×List UInt8)):RelR σ (qV R) (qA R):=by
 have key: ∀(a b:ByteArray) (n:Int),RelR σ (.tuple #[.string a,.string b,.int .i64 n]) (.tup [.str a,.str b,.int .i64 n]):=fun a b n=>by
  refine ⟨[.string a,.string b,.int .i64 n],rfl,rfl,fun j v a g i=> ?_⟩;rcases j with _|_|_|j<;>simp at g i
  ·subst g i;exact .str _
  ·subst g i;exact .str _
  ·subst g i;exact .int _ _
 cases R with
 |none=>exact key _ _ _
 |some p=>exact key _ _ _
theorem Jo (s:ByteArray) (r:s.size≤1000000) (g:1≤s.size):AC Tryz.prog 178 [.str s] (qA (dbl (s.data.toList.drop 1) [])):=by
 refine ⟨ow,fun σ w vs i hr hg=> ?_⟩;obtain ⟨v1,rfl⟩:=List.length_eq_one_iff.1 hr.1;have C:Rel1 σ v1 (.str s):=hr.2 0 v1 _ rfl rfl;cases C;refine (Er s r g _ rfl w).mono ?_;rintro e w' ⟨rfl,hb⟩;exact ⟨σ,_,rfl,Ext.refl _ _,fun b q v j=>(hb.cell (p:=⟨b,q,none⟩) (World.block_lt_of_cell? w _ (i _ _ _ j))).trans (i _ _ _ j),hb,Jn _ _⟩
theorem Jp (s:ByteArray) (r:s.size≤1000000) (g:1≤s.size):AC Tryz.prog 179 [.str s] (qA (sgl (s.data.toList.drop 1) [])):=by
 refine ⟨ox,fun σ w vs i hr hg=> ?_⟩;obtain ⟨v1,rfl⟩:=List.length_eq_one_iff.1 hr.1;have C:Rel1 σ v1 (.str s):=hr.2 0 v1 _ rfl rfl;cases C;refine (Es s r g _ rfl w).mono ?_;rintro e w' ⟨rfl,hb⟩;exact ⟨σ,_,rfl,Ext.refl _ _,fun b q v j=>(hb.cell (p:=⟨b,q,none⟩) (World.block_lt_of_cell? w _ (i _ _ _ j))).trans (i _ _ _ j),hb,Jn _ _⟩
def unq (s:ByteArray):Option (List UInt8×List UInt8):=match s.data.toList with
 | []=>none
 |c::l=>if c=34 then dbl l [] else if c=39 then sgl l [] else none
theorem jf (s:ByteArray) (C:s.size≤1000000):AC Tryz.prog 124 [.str s] (qA (unq s)):=by
 refine kE Tryz.func124 mW mY fun E P=> ?_
 refine kW ?_;refine kC (fun hb=> ?_) fun hb=> ?_
 ·have j:s=⟨#[]⟩:=by simpa using hb
  subst j;refine kW ?_;refine aR ⟨_,rfl,?_⟩;rfl
 ·have j: ¬s=ByteArray.empty:=gB4 hb
  have i:1≤s.size:=by have:=mt (sz0 s).2 j;omega
  have g:unq s=if s[0]=34 then dbl (s.data.toList.drop 1) [] else if s[0]=39 then sgl (s.data.toList.drop 1) [] else none:=by
   have hl:=gp (s:=s) (k:=0) i;rw [List.drop_zero] at hl;unfold unq;cases I:s.data.toList with
   |nil=>rw [I] at hl;cases hl
   |cons c l=>
    rw [I] at hl;injection hl with J T
    rw [show s[0]=c from J.symm];rfl
  have U:=Jo s C i;have hg:=Jp s C i;refine kW ?_;refine kQ [] ?_;rw [show s.data.getD (0:Int).toNat 0=s[0] from io i];refine kW ?_;refine kC (fun hb=> ?_) fun hb=> ?_
  ·have e:s[0]=34:=UInt8.toNat_inj.1 (by have:((s[0].toNat:Nat):Int)=34:=by simpa using hb
                                         show s[0].toNat=34;omega)
   rw [if_pos e] at g;rw [g];generalize dbl (s.data.toList.drop 1) []=R at*;cases R with
   |none=>
    refine kW ?_;refine kQ [.v (qA none)] ?_;refine kW ?_;refine aR ⟨_,rfl,?_⟩;rfl
   |some p=>
    refine kW ?_;refine kQ [.v (qA (some p))] ?_;refine kW ?_;refine aR ⟨_,rfl,?_⟩;rfl
  ·have e: ¬s[0]=34:=fun e=>by rw [e] at hb;cases hb
   rw [if_neg e] at g;refine kW ?_;refine kC (fun hb=> ?_) fun hb=> ?_
   ·have r:s[0]=39:=UInt8.toNat_inj.1 (by have:((s[0].toNat:Nat):Int)=39:=by simpa using hb
                                          show s[0].toNat=39;omega)
    rw [if_pos r] at g;rw [g];generalize sgl (s.data.toList.drop 1) []=R at*;cases R with
    |none=>
     refine kW ?_;refine kQ [.v (qA none)] ?_;refine kW ?_;refine aR ⟨_,rfl,?_⟩;rfl
    |some p=>
     refine kW ?_;refine kQ [.v (qA (some p))] ?_;refine kW ?_;refine aR ⟨_,rfl,?_⟩;rfl
   ·have r: ¬s[0]=39:=fun e=>by rw [e] at hb;cases hb
    rw [if_neg r] at g;rw [g];refine kW ?_;refine aR ⟨_,rfl,?_⟩;rfl
theorem Jq (s:ByteArray) (c:UInt8):AC Tryz.prog 156 [.str s,.str ⟨#[c]⟩] (.int .i64 (Lib.indexByte s.data.toList c)):=by
 refine ⟨by kernel_rfl,fun σ w vs j hr hg=> ?_⟩;obtain ⟨v1,v2,rfl,g,i⟩:=pM hr;have g:Rel1 σ v1 (.str s):=g;have i:Rel1 σ v2 (.str ⟨#[c]⟩):=i;cases g;cases i;refine (Tryz.stringslite_Index_one s c w).mono ?_;rintro e w' ⟨rfl,rfl⟩;exact ⟨σ,_,rfl,Ext.refl _ _,j,Below.refl _ _,.int _ _⟩
def pQ (s:ByteArray) (c:UInt8):ByteArray×ByteArray×Bool:=
 if Lib.indexByte s.data.toList c= -1 then (s,⟨#[]⟩,false) else (s.extract 0 (Lib.indexByte s.data.toList c).toNat,s.extract ((Lib.indexByte s.data.toList c).toNat+1) s.size,true)
theorem Le (s:ByteArray) (c:UInt8) (R:s.size≤140737488355328):AC Tryz.prog 120 [.str s,.str ⟨#[c]⟩] (.tup [.str (pQ s c).1,.str (pQ s c).2.1,.bool (pQ s c).2.2]):=by
 have h:=Jq s c;have g:(ByteArray.mk #[c]).size=1:=rfl;rcases vZ s.data.toList c with ⟨j,_⟩|⟨i,j,C,_,_⟩
 ·have p:pQ s c=(s,⟨#[]⟩,false):=by rw [pQ,if_pos j]
  rw [j] at h;rw [p];refine kE Tryz.func120 fw fx fun E I=> ?_
  refine kW ?_;refine kQ [.v (.int .i64 (-1))] ?_;refine kW ?_;refine kC (fun hb=> ?_) fun hb=> ?_
  ·simp at hb
  ·refine kW ?_
   refine aR ⟨_,rfl,?_⟩;rfl
 ·have J:i<s.size:=C
  have p:pQ s c=(s.extract 0 i,s.extract (i+1) s.size,true):=by rw [pQ,if_neg (by omega),j];rfl
  rw [j] at h;rw [p];have r:IntKind.i64.wrap ((i:Int)+1)=(i:Int)+1:=aD (by omega) (by omega);refine kE Tryz.func120 fw fx fun E I=> ?_
  refine kW ?_;refine kQ [.v (.int .i64 i)] ?_;refine kW ?_;refine kC (fun hb=> ?_) fun hb=> ?_
  ·refine kW ?_
   refine kP [] ?_ ?_
   ·((repeat' apply aI)<;>first|exact kD|(intro P;refine ⟨?_,kG⟩;(repeat' apply aI)<;>first|exact kD|skip)|skip)
    all_goals first|omega|(rw [g];show (IntKind.i64.wrap ((i:Int)+1))≤_;rw [r];omega)|(rw [g];show 0≤(IntKind.i64.wrap ((i:Int)+1));rw [r];omega)|skip
   refine kW ?_;refine aR ⟨_,rfl,?_⟩
   have e:s.extract (IntKind.i64.wrap ((i:Int)+((ByteArray.mk #[c]).size:Nat))).toNat (s.size:Int).toNat=s.extract (i+1) s.size:=by
    rw [g];rw [show IntKind.i64.wrap ((i:Int)+((1:Nat):Int))=(i:Int)+1 from r];rfl
   rw [e];rfl
  ·simp at hb
theorem NH (s:ByteArray) (c:UInt8) (g:s.size≤140737488355328):AC Tryz.prog 71 [.str s,.str ⟨#[c]⟩] (.tup [.str (pQ s c).1,.str (pQ s c).2.1,.bool (pQ s c).2.2]):=by
 have h:=Le s c g;refine kE Tryz.func71 qN qO fun E i=> ?_
 refine kW ?_;refine kQ [.v (.tup [.str (pQ s c).1,.str (pQ s c).2.1,.bool (pQ s c).2.2])] ?_;refine kW ?_;refine aR ⟨_,rfl,?_⟩;rfl
end
section
open Go.RowKit
def V.bool (b:Bool):V:= .mk 1 b 0 ⟨#[]⟩ [] []
def lS:ByteArray:=⟨#[110,117,108,108]⟩
def fU:ByteArray:=⟨#[116,114,117,101]⟩
def iH:ByteArray:=⟨#[102,97,108,115,101]⟩
def bw (s:ByteArray):V×Int:=
 if s=⟨#[]⟩∨s=⟨#[126]⟩∨s=lS then (V.null,0)
 else if s=fU∨s=iH then (V.bool (decide (s=fU)),0)
 else if tF s=false then (V.str s,0)
 else match Lib.atoiAll s.data.toList with
  | .ok v=>(V.int v,0)
  |_=>(V.null,9)
theorem j3 (b:Bool):AC Tryz.prog 180 [.bool b] ((vA ((V.bool b)))):=by
 refine kE Tryz.func180 vN vO fun E g=> ?_
 refine kW ?_;refine aR ⟨_,rfl,?_⟩;rfl
theorem oC:AC Tryz.prog 44 [] ((vA (V.null))):=by
 refine kE Tryz.func44 vL vM fun E g=> ?_
 refine kW ?_;refine aR ⟨_,rfl,?_⟩;rfl
theorem Et (s:ByteArray) (v:Int) (R:s.size≤1000000) (h:Lib.atoiAll s.data.toList= .ok v):AC Tryz.prog 182 [.str s,.int .i64 10,.int .i64 64] (.tup [.int .i64 v,.raw .nilIface]):=by
 refine ⟨by kernel_rfl,fun σ w vs r hr hg=> ?_⟩;have hl:vs.length=3:=hr.1
 obtain ⟨v1,v2,v3,rfl⟩: ∃a b c,vs= [a,b,c]:=by
  rcases vs with _|⟨a,_|⟨b,_|⟨c,_|⟨d,l⟩⟩⟩⟩<;>simp at hl
  exact ⟨a,b,c,rfl⟩
 have C:Rel1 σ v1 (.str s):=hr.2 0 v1 _ rfl rfl;have I:Rel1 σ v2 (.int .i64 10):=hr.2 1 v2 _ rfl rfl;have J:Rel1 σ v3 (.int .i64 64):=hr.2 2 v3 _ rfl rfl;cases C;cases I;cases J;refine (Tryz.strconv_ParseInt_10_at64_ok s (by omega) v (by rw [Lib.parseIntB_64];exact h) w).mono ?_;rintro e w' ⟨rfl,P⟩
 have hb:Below w.heap.size w w' :=by
  rcases P with rfl|⟨t,rfl⟩
  ·exact Below.refl _ _
  ·exact Lib.bytesWorld_below _ _ _
 refine ⟨σ,_,rfl,Ext.refl _ _,fun b q v g=>(hb.cell (p:=⟨b,q,none⟩) (World.block_lt_of_cell? w _ (r _ _ _ g))).trans (r _ _ _ g),hb,⟨[.int .i64 v,.nilIface],rfl,rfl,fun j v a g i=> ?_⟩⟩;rcases j with _|_|j<;>simp at g i
 ·subst g i;exact .int _ _
 ·subst g i;exact .raw _ rfl
theorem Ak (s:ByteArray) (r:s.size≤1000000) (h: ∀v,Lib.atoiAll s.data.toList≠ .ok v): ∃n:Int,∀w:World,GW w→Calls Tryz.prog 182 #[.string s,.int .i64 10,.int .i64 64] w fun e w' => ∃t p,e= .returned (.tuple #[.int .i64 n,.iface t (.pointer (some p))])∧Below w.heap.size w w' :=by
 cases hA:Lib.atoiAll s.data.toList with
 |ok v=>exact absurd hA (h v)
 |range=>
  refine ⟨Lib.intSat 64 s.data.toList,fun w hg=> ?_⟩;obtain ⟨ev,i,j⟩:=hg.ifc_cell (g:=gi_ErrRange) (by simp [yx]);refine (Tryz.strconv_ParseInt_10_at64_range s (by omega) (by rw [Lib.parseIntB_64];exact hA) ev w i j).mono ?_;rintro e w' ⟨N,rfl,_,_,hb⟩;exact ⟨_,_,rfl,hb⟩
 |_=>
  refine ⟨0,fun w hg=> ?_⟩;obtain ⟨ev,i,j⟩:=hg.ifc_cell (g:=gi_ErrSyntax) (by simp [yx]);refine (Tryz.strconv_ParseInt_10_at64_syntax s (by omega) (by rw [Lib.parseIntB_64];exact hA) ev w i j).mono ?_;rintro e w' ⟨N,rfl,_,_,hb⟩;exact ⟨_,_,rfl,hb⟩
theorem Jr (s:ByteArray) (T:s.size≤1000000) (I:(¬(s=⟨#[]⟩∨s=⟨#[126]⟩∨s=lS)→ ¬(s=fU∨s=iH)→tF s=true→ ∃v,Lib.atoiAll s.data.toList= .ok v)):AC Tryz.prog 125 [.str s] (.tup [(vA ((bw s).1)),.int .i64 (bw s).2]):=by
 have hn:=Cb s (by omega);have hs:=ep s;have h0:=oC;refine kE Tryz.func125 pH pI fun E hE=> ?_
 have i:s=⟨#[]⟩∨s=⟨#[126]⟩∨s=lS→bw s=(V.null,0):=fun h=>by rw [bw,if_pos h]
 refine kW ?_;refine kC (fun hb=> ?_) fun hb=> ?_
 ·skip
  have g:=i (.inl (gB3 hb));have j:=hb;refine kW ?_;refine kC (fun hb=> ?_) fun hb=> ?_
  ·refine kW ?_
   refine kQ [.v ((vA (V.null)))] ?_;refine kW ?_;refine aR ⟨_,rfl,?_⟩;rw [g];rfl
  ·rw [j] at hb
   cases hb
 have U:=gB4 hb;refine kW ?_;refine kC (fun hb=> ?_) fun hb=> ?_
 ·skip
  have g:=i (.inr (.inl (gB3 hb)));have j:=hb;refine kW ?_;refine kC (fun hb=> ?_) fun hb=> ?_
  ·refine kW ?_
   refine kQ [.v ((vA (V.null)))] ?_;refine kW ?_;refine aR ⟨_,rfl,?_⟩;rw [g];rfl
  ·rw [j] at hb
   cases hb
 have n2:=gB4 hb;refine kW ?_;refine kC (fun hb=> ?_) fun hb=> ?_
 ·have J:s=lS:=gB3 hb
  have g:=i (.inr (.inr J));refine kW ?_;refine kQ [.v ((vA (V.null)))] ?_;refine kW ?_;refine aR ⟨_,rfl,?_⟩;rw [g];rfl
 have n3: ¬s=lS:=gB4 hb;have r: ¬(s=⟨#[]⟩∨s=⟨#[126]⟩∨s=lS):=fun h=>h.elim U fun h=>h.elim n2 n3
 have p:s=fU∨s=iH→bw s=(V.bool (decide (s=fU)),0):=fun h=>by rw [bw,if_neg r,if_pos h]
 refine kW ?_;refine kC (fun hb=> ?_) fun hb=> ?_
 ·skip
  have g:=p (.inl (gB3 hb));have j:=hb;have hB:=j3 (decide (s=fU));refine kW ?_;refine kC (fun hb=> ?_) fun hb=> ?_
  ·refine kW ?_
   refine kQ [.v ((vA ((V.bool (decide (s=fU))))))] ?_;refine kW ?_;refine aR ⟨_,rfl,?_⟩;rw [g];rfl
  ·rw [j] at hb
   cases hb
 have n4: ¬s=fU:=gB4 hb;refine kW ?_;refine kC (fun hb=> ?_) fun hb=> ?_
 ·have g:=p (.inr (gB3 hb))
  have hB:=j3 (decide (s=fU));refine kW ?_;refine kQ [.v ((vA ((V.bool (decide (s=fU))))))] ?_;refine kW ?_;refine aR ⟨_,rfl,?_⟩;rw [g];rfl
 have n5: ¬s=iH:=gB4 hb;have P: ¬(s=fU∨s=iH):=fun h=>h.elim n4 n5
 refine kW ?_;refine kQ [.v (.bool (tF s))] ?_;refine kC (fun hb=> ?_) fun hb=> ?_
 ·have C:tF s=false:=by simpa using hb
  have g:bw s=(V.str s,0):=by rw [bw,if_neg r,if_neg P,if_pos C]
  refine kW ?_;refine kQ [.v ((vA ((V.str s))))] ?_;refine kW ?_;refine aR ⟨_,rfl,?_⟩;rw [g];rfl
 ·have C:tF s=true:=by simpa using hb
  obtain ⟨v,R⟩:=I r P C;have g:bw s=(V.int v,0):=by rw [bw,if_neg r,if_neg P,if_neg (by rw [C];decide),R]
  have hP:=Et s v T R;have hI:=Hg v;refine kW ?_;refine kQ [.v (.tup [.int .i64 v,.raw .nilIface])] ?_;refine kW ?_;refine kP [] ?_ ?_
  ·((repeat' apply aI)<;>first|exact kD|(intro hgd;refine ⟨?_,kG⟩;(repeat' apply aI)<;>first|exact kD|skip)|skip)
   exact MY true
  refine kC (fun hb=> ?_) fun hb=> ?_
  ·cases hb
  refine kW ?_;refine kQ [.v ((vA ((V.int v))))] ?_;refine kW ?_;refine aR ⟨_,rfl,?_⟩;rw [g];rfl
end
section
open Go.RowKit
theorem AC.bool_at {f:FuncId} {s:ByteArray} {b:Bool} (h:AC Tryz.prog f [.str s] (.bool b)) {w:World} (hg:GW w):Calls Tryz.prog f #[.string s] w fun e w' =>e= .returned (.bool b)∧Below w.heap.size w w' :=by
 refine (h.run (fun _ _=>none) w [.string s] (fun _ _ _ h=>by cases h) ⟨rfl,fun j v a g i=> ?_⟩ hg).mono ?_
 ·rcases j with _|j<;>simp at g i
  subst g i;exact .str s
 ·rintro e w' ⟨σ',v,rfl,_,_,hb,hr⟩
  have hr:Rel1 σ' v (.bool b):=hr;cases hr;exact ⟨rfl,hb⟩
theorem pR {s t:ByteArray} (h: ¬s=t):(s.toList==t.data.toList)=false:=by
 rw [beq_eq_false_iff_ne];intro e;refine h (ByteArray.ext (Array.ext' ?_));rw [←Lib.toList_data s,e]
set_option maxHeartbeats 2000000 in
theorem Ce (s:ByteArray) (hz:s.size≤1000000) (U: ¬(s=⟨#[]⟩∨s=⟨#[126]⟩∨s=lS)) (nb: ¬(s=fU∨s=iH)) (hN:tF s=true) (n:Int) (hA: ∀w:World,GW w→Calls Tryz.prog 182 #[.string s,.int .i64 10,.int .i64 64] w fun e w' => ∃t p,e= .returned (.tuple #[.int .i64 n,.iface t (.pointer (some p))])∧Below w.heap.size w w') (w:World) (hg:GW w):
  Calls Tryz.prog 125 #[.string s] w fun e w' =>e= .returned (.tuple #[.agg #[.int .i64 0,.bool false,.int .i64 0,.string ⟨#[]⟩,.slice none 0 0,.slice none 0 0],.int .i64 9])∧Below w.heap.size w w' :=by
 have h1:(s.toList== [])=false:=pR (t:=⟨#[]⟩) fun h=>U (.inl h)
 have h2:(s.toList== [126])=false:=pR (t:=⟨#[126]⟩) fun h=>U (.inr (.inl h))
 have h3:(s.toList== [110,117,108,108])=false:=pR (t:=lS) fun h=>U (.inr (.inr h))
 have h4:(s.toList== [116,114,117,101])=false:=pR (t:=fU) fun h=>nb (.inl h)
 have h5:(s.toList== [102,97,108,115,101])=false:=pR (t:=iH) fun h=>nb (.inr h)
 have hn:=fun (w:World) (hg:GW w)=>AC.bool_at (Cb s (by omega)) hg
 rw [hN] at hn;clear U nb hN
 go_enter Tryz.func125,Tryz.ntmps125
 go_wp2_with fail
 have i:Below w.heap.size w (w.alloc (.cells #[.int .i64 0,.bool false,.int .i64 0,.string ⟨#[]⟩,.slice none 0 0,.slice none 0 0] 26)):=(Below.refl _ _).alloc (gA4 _) _;have P:Blk (w.alloc (.cells #[.int .i64 0,.bool false,.int .i64 0,.string ⟨#[]⟩,.slice none 0 0,.slice none 0 0] 26)) w.heap.size 26 #[.int .i64 0,.bool false,.int .i64 0,.string ⟨#[]⟩,.slice none 0 0,.slice none 0 0]:=Blk.new _ _ _ rfl;have j:=hg.below i;refine (hn _ j).mono ?_;rintro e w1 ⟨rfl,g⟩;have r:=P.below g (by simp);have R:=j.below g;have C:Below w.heap.size w w1:=i.trans (g.mono (by simp));clear hn i P j g
 go_wp2_with fail
 refine (hA _ R).mono ?_;rintro e w2 ⟨t,p,rfl,I⟩;have J:=r.below I r.lt;have T:Below w.heap.size w w2:=C.trans (I.mono C.size);have HK:=Lib.hid J;have HB:=Lib.hid T;have hz2:w.heap.size<w2.heap.size:=J.lt;clear hA I r R C J T;have q1: ∀w:World,(binOp .neq 216 (.iface t (.pointer (some p))) .nilIface).run Tryz.prog w= .ok (.bool true) w:=fun w=>by simp [go_sem]
 go_wp2_with ((with_reducible refine qm 2 30 26 (w.heap.size) 26 #[.int .i64 0,.bool false,.int .i64 0,.string ⟨#[]⟩,.slice none 0 0,.slice none 0 0] #[.int .i64 0,.bool false,.int .i64 0,.string ⟨#[]⟩,.slice none 0 0,.slice none 0 0] ?_ ?_ ?_ ?_ ?_ ?_ ?_);rfl;rfl;exact HK.out;rfl;exact (show∀u∈ [Value.int .i64 0,.bool false,.int .i64 0,.string ⟨#[]⟩,.slice none 0 0,.slice none 0 0],u.oneCell' =true by simp [Value.oneCell']);kernel_rfl)
 refine bodyPost_ret (lC rfl _ _ _ _ _ _ rfl (HK.out.set _) Tryz.underlying26 rfl (by kernel_rfl)) rfl ⟨rfl,?_⟩;exact below_setRow HB.out (gA4 _) _
theorem Hm (σ:Sg) (e:Int):RelR σ (.tuple #[.agg #[.int .i64 0,.bool false,.int .i64 0,.string ⟨#[]⟩,.slice none 0 0,.slice none 0 0],.int .i64 e]) (.tup [(vA (V.null)),.int .i64 e]):=by
 refine ⟨[.agg #[.int .i64 0,.bool false,.int .i64 0,.string ⟨#[]⟩,.slice none 0 0,.slice none 0 0],.int .i64 e],rfl,rfl,fun j v a g p=> ?_⟩;rcases j with _|_|j<;>simp at g p
 ·subst g p
  refine ⟨[.int .i64 0,.bool false,.int .i64 0,.string ⟨#[]⟩,.slice none 0 0,.slice none 0 0],rfl,?_⟩;have r: ∀esz,Rel1 σ (.slice none 0 0) (.lst .any esz []):=fun esz=> .lst .any esz [] none 0 0 0 0 (fun _ _=>undef) rfl (by omega) (fun h=>by omega) (fun i c h=>by simp at h) (fun i j h=>by omega) (fun i j c a h=>by simp at h) trivial
  exact RelL.cons (.int _ _) (RelL.cons (.bool _) (RelL.cons (.int _ _) (RelL.cons (.str _) (RelL.cons (r 6) (RelL.cons (r 7) RelL.nil)))))
 ·subst g p;exact .int _ _
theorem Al (s:ByteArray) (r:s.size≤1000000):AC Tryz.prog 125 [.str s] (.tup [(vA ((bw s).1)),.int .i64 (bw s).2]):=by
 by_cases g:(¬(s=⟨#[]⟩∨s=⟨#[126]⟩∨s=lS)→ ¬(s=fU∨s=iH)→tF s=true→ ∃v,Lib.atoiAll s.data.toList= .ok v)
 ·exact Jr s r g
 ·have C: ¬(s=⟨#[]⟩∨s=⟨#[126]⟩∨s=lS):=fun h=>g fun n=>absurd h n
  have I: ¬(s=fU∨s=iH):=fun h=>g fun _ n=>absurd h n
  have J:tF s=true:=by
   cases h:tF s with
   |true=>rfl
   |false=>exact absurd (fun _ _ n=>by rw [h] at n;cases n) g
  have i: ∀v,Lib.atoiAll s.data.toList≠ .ok v:=fun v j=>g fun _ _ _=>⟨v,j⟩
  obtain ⟨n,hA⟩:=Ak s r i
  have R:bw s=(V.null,9):=by
   rw [bw,if_neg C,if_neg I,if_neg (by rw [J];decide)];cases h:Lib.atoiAll s.data.toList with
   |ok v=>exact absurd h (i v)
   |range=>rfl
   |_=>rfl
  rw [R];refine ⟨by kernel_rfl,fun σ w vs P hr hg=> ?_⟩;have hl:vs.length=1:=hr.1;obtain ⟨v1,rfl⟩:=List.length_eq_one_iff.1 hl;have T:Rel1 σ v1 (.str s):=hr.2 0 v1 _ rfl rfl;cases T;refine (Ce s r C I J n hA w hg).mono ?_;rintro e w' ⟨rfl,hb⟩;exact ⟨σ,_,rfl,Ext.refl _ _,fun b q v j=>(hb.cell (p:=⟨b,q,none⟩) (World.block_lt_of_cell? w _ (P _ _ _ j))).trans (P _ _ _ j),hb,Hm σ 9⟩
end
end Go.Proofs.YtbgflifmanjpjaaGreatDoor
