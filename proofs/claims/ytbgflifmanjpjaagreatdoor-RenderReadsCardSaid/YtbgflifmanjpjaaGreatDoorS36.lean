/- Part 36. -/
import Derived.Test.YtbgflifmanjpjaaGreatDoorS35
set_option linter.unusedSimpArgs false
set_option linter.unusedVariables false
namespace Go.Proofs.YtbgflifmanjpjaaGreatDoor
open Go.RowKit
def rO (p:ByteArray×ByteArray):List (ByteArray×ByteArray)→List (ByteArray×ByteArray)
 | []=> [p]
 |q::l=>if Op.bytesLess q.1.toList p.1.toList=true then q::rO p l else p::q::l
def iv (l:List (ByteArray×ByteArray)):List (ByteArray×ByteArray):=l.foldl (fun out p=>rO p out) []
theorem C7 (p:ByteArray×ByteArray): ∀l,(rO p l).length=l.length+1
 | []=>rfl
 |q::l=>by rw [rO];split<;>simp [C7 p l]
theorem zd (l:List (ByteArray×ByteArray)):(iv l).length=l.length:=by
 have key: ∀(l out:List (ByteArray×ByteArray)),(l.foldl (fun out p=>rO p out) out).length=out.length+l.length:=by
  intro l
  induction l with
  |nil=>intro out;rfl
  |cons p l ih=>intro out;rw [List.foldl_cons,ih,C7,gA3];omega
 rw [iv,key];simp
theorem mL (p:ByteArray×ByteArray): ∀l,(rO p l).Perm (p::l)
 | []=> .refl _
 |q::l=>by
  rw [rO];split
  ·exact ((mL p l).cons q).trans (.swap p q l)
  ·exact .refl _
theorem wR (l:List (ByteArray×ByteArray)):(iv l).Perm l:=by
 have key: ∀(l out:List (ByteArray×ByteArray)),(l.foldl (fun out p=>rO p out) out).Perm (out++l):=by
  intro l
  induction l with
  |nil=>intro out;simp
  |cons p l ih=>
   intro out;rw [List.foldl_cons];refine (ih (rO p out)).trans (((mL p out).append_right l).trans ?_);exact (List.perm_middle (l₁:=out) (a:=p) (l₂:=l)).symm
 exact key l []
theorem wS {p:ByteArray×ByteArray}: ∀{l:List (ByteArray×ByteArray)},l.Pairwise (fun x y=>klt x.1 y.1)→(∀q∈l,q.1≠p.1)→(rO p l).Pairwise fun x y=>klt x.1 y.1
 | [],_,_=>List.pairwise_singleton _ _
 |q::l,h,hn=>by
  obtain ⟨r,C⟩:=List.pairwise_cons.1 h;rw [rO];split
  ·rename_i j
   refine List.pairwise_cons.2 ⟨fun x g=> ?_,wS C fun x g=>hn x (by simp [g])⟩;rcases gB2 ((mL p l).mem_iff.1 g) with rfl|g
   ·exact j
   ·exact r x g
  ·rename_i j
   have i:klt p.1 q.1:=by
    refine qK (by simpa using j) ?_;rw [beq_eq_false_iff_ne];intro e;refine hn q (by simp) ?_;rw [ByteArray.toList_eq,ByteArray.toList_eq] at e;exact ByteArray.ext (Array.toList_inj.1 e)
   refine List.pairwise_cons.2 ⟨fun x g=> ?_,h⟩;rcases gB2 g with rfl|g
   ·exact i
   ·exact jd i (r x g)
theorem C8 (l:List (ByteArray×ByteArray)) (hn:(l.map (·.1)).Nodup):(iv l).Pairwise fun x y=>klt x.1 y.1:=by
 have key: ∀(l out:List (ByteArray×ByteArray)),out.Pairwise (fun x y=>klt x.1 y.1)→((out++l).map (·.1)).Nodup→(l.foldl (fun out p=>rO p out) out).Pairwise fun x y=>klt x.1 y.1:=by
  intro l
  induction l with
  |nil=>intro out h _;exact h
  |cons p l ih=>
   intro out h g;rw [List.foldl_cons];refine ih _ (wS h fun q i e=> ?_) ?_
   ·rw [List.map_append,List.nodup_append] at g
    exact g.2.2 q.1 (List.mem_map.2 ⟨q,i,rfl⟩) p.1 (by simp) e
   ·have j:(rO p out++l).Perm (out++p::l):=((mL p out).append_right l).trans (List.perm_middle (l₁:=out) (a:=p) (l₂:=l)).symm
    exact (j.map (·.1)).nodup_iff.2 g
 exact key l [] .nil hn
def gT (pre:List Fl) (f:Fl):Int:=if p8 f.1=false then 22 else if 65536<f.2.size then 6 else if (pre.any fun g=>decide (g.1=f.1))=true then 13 else 0
def eN:List Fl→List Fl→ByteArray×Int
 |_,[]=>(⟨#[]⟩,0)
 |pre,f::r=>if gT pre f≠0 then (f.1,gT pre f) else eN (pre++ [f]) r
def bp (l:List Fl):List Fl×ByteArray×Int:=if 32<l.length then ([],⟨#[]⟩,6) else if (eN [] l).2≠0 then ([],(eN [] l).1,(eN [] l).2) else (iv l,⟨#[]⟩,0)
theorem HU {l:List Fl} {k:Nat} {f:Fl} (h:l[k]? =some f):eN (l.take k) (l.drop k)=if gT (l.take k) f≠0 then (f.1,gT (l.take k) f) else eN (l.take (k+1)) (l.drop (k+1)):=by
 obtain ⟨g,i⟩:=gA0 h;rw [List.drop_eq_getElem_cons g,i,eN,List.take_add_one,h];rfl
theorem sQ: ∀(r pre:List Fl),(pre.map (·.1)).Nodup→(eN pre r).2=0→((pre++r).map (·.1)).Nodup∧ ∀f∈r,p8 f.1=true∧f.2.size≤65536
 | [],pre,h,_=>⟨by simpa using h,fun f i=>by cases i⟩
 |f::r,pre,h,j=>by
  rw [eN] at j;by_cases i:gT pre f≠0
  ·rw [if_pos i] at j
   exact absurd j i
  rw [if_neg i] at j;have i:gT pre f=0:=by omega
  unfold gT at i;split at i
  ·cases i
  rename_i C;split at i
  ·cases i
  rename_i T;split at i
  ·cases i
  rename_i I
  have p:((pre++ [f]).map (·.1)).Nodup:=by
   rw [List.map_append,List.nodup_append];refine ⟨h,by simp,fun a J b hb e=> ?_⟩;rw [List.map_cons,List.map_nil,List.mem_singleton] at hb;obtain ⟨g,hg,rfl⟩:=List.mem_map.1 J;exact I (List.any_eq_true.2 ⟨g,hg,by rw [e,hb];simp⟩)
  obtain ⟨P,R⟩:=sQ r (pre++ [f]) p j;refine ⟨by simpa using P,fun g hg=> ?_⟩;rcases gB2 hg with rfl|hg
  ·exact ⟨by simpa using C,by omega⟩
  ·exact R g hg
theorem ze {l:List Fl} (h:(bp l).2.2=0):l.length≤32∧(l.map (·.1)).Nodup∧(∀f∈l,p8 f.1=true∧f.2.size≤65536)∧(bp l).1=iv l∧(eN [] l).2=0:=by
 unfold bp at h⊢;split at h
 ·cases h
 rename_i i;split at h
 ·rename_i g
  exact absurd h g
 rename_i g;rw [if_neg i,if_neg g];obtain ⟨j,p⟩:=sQ l [] (by simp) (by omega);exact ⟨by omega,by simpa using j,p,rfl,by omega⟩
def AS:Value:= .agg #[.string ⟨#[]⟩,.string ⟨#[]⟩]
theorem zf:(Tryz.prog.info? 52).map (fun i=>(i.zero,i.size,i.bytes))=some (some AS,2,32):=kk
set_option maxRecDepth 100000 in
theorem Fd (rows:List (List AV)) (P:0<rows.length) (hb:rows.length*32≤140737488355328):MF Tryz.prog 82 [.lst .any 2 rows] 2 rows:=by
 refine ⟨eL,fun σ w vs J hr hg=> ?_⟩;obtain ⟨v,rfl⟩:=List.length_eq_one_iff.1 hr.1;have h1:Rel1 σ v (.lst .any 2 rows):=hr.2 0 v _ rfl rfl;obtain ⟨A,cap,b,o,news,rfl,hcap,hA,hsz,g,hrel,i⟩:=cd h1;have:=hA P;subst this;obtain ⟨i0,R,T,U,hzb⟩:=info_parts zf
 obtain ⟨r,hz1,hz2,C⟩: ∃r:List Value,(∀u∈r,u.oneCell' =true)∧rows.length*2+r.length=grownCap (w.alloc (.cells #[] 52)) (0+rows.length) 0 52*2∧
   ∀ty,(Builtin.append_ #[22,22] ty #[.slice (some ⟨w.heap.size,0,none⟩) 0 0,.slice (some ⟨b,o,none⟩) rows.length cap]).run Tryz.prog (w.alloc (.cells #[] 52))=
    .ok (.slice (some ⟨w.heap.size+1,0,none⟩) rows.length (grownCap (w.alloc (.cells #[] 52)) (0+rows.length) 0 52)) ((w.alloc (.cells #[] 52)).drew.alloc (.cells (news++r).toArray 52)):=by
  have hge:=grownCap_ge (w.alloc (.cells #[] 52)) (0+rows.length) 0 52;refine ⟨(Builtin.zeroCells AS.cells (grownCap (w.alloc (.cells #[] 52)) (0+rows.length) 0 52-(0+rows.length))).toList,dz (by simp [AS,Value.cells,Value.oneCell']) _,?_,fun ty=> ?_⟩
  ·have:(AS.cells).size=2:=rfl
   simp only [Array.length_toList,size_zeroCells,this];rw [←gC3];congr 1;omega
  ·have:=run_append_grow (w.alloc (.cells #[] 52)) 22 ty 52 i0 _ Tryz.underlying22 R T ⟨w.heap.size,0,none⟩ 0 0 [] (by simp) (fun j v h=>by simp at h) ⟨b,o,none⟩ rows.length cap news (by rw [U];exact g)
    (fun j v hj=>by
     rw [Addr.add_lit];have h2:=J _ _ _ (i j v hj);rw [World.cell?_alloc_lt w _ _ (World.block_lt_of_cell? w _ h2)];exact h2) (by omega) (by omega) (by rw [hzb];exact growslice_fits (by omega) (by omega))
   rw [this];simp;congr 2;apply Array.ext';simp
 have q24: ∀(w:World) (a:Option Addr) (n c:Nat),(binOp .eql 22 (.slice a n c) (.slice none 0 0)).run Tryz.prog w= .ok (.bool a.isNone) w:=fun w a n c=>by simp [binOp,run_equal_slice_nil w _ _ a n c Tryz.underlying22]
 go_enter Tryz.func82,Tryz.ntmps82
 go_wp2_with (at_builtin;refine Lib.wpList_append_run _ rfl _ _ _ _ rfl _ _ rfl rfl _ _ (C _) ?_)
 go_wp2
 go_ret
 have hge:=grownCap_ge (w.alloc (.cells #[] 52)) (0+rows.length) 0 52;have I:Below w.heap.size w ((w.alloc (.cells #[] 52)).drew.alloc (.cells (news++r).toArray 52)):=(((Below.refl _ _).alloc (gA4 _) _).drew).alloc (by simp) _
 exact ⟨σ,w.heap.size+1,_,rfl,Ext.refl _ _,fun b q v hv=>(I.cell (p:=⟨b,q,none⟩) (World.block_lt_of_cell? w _ (J _ _ _ hv))).trans (J _ _ _ hv),I,by omega,
  by
   have:=FRowW.new (w1:=(w.alloc (.cells #[] 52)).drew) J (by simp) (e:=52) hrel hsz g hz1 (by rw [g];exact hz2) (by omega);have e:(w.alloc (.cells #[] 52)).drew.heap.size=w.heap.size+1:=by simp
   rw [e,Nat.zero_add] at this;exact this⟩
set_option maxRecDepth 100000 in
theorem C9:AC Tryz.prog 82 [.lst .any 2 []] (.lst .any 2 []):=by
 refine ⟨eL,fun σ w vs C hr hg=> ?_⟩;obtain ⟨v,rfl⟩:=List.length_eq_one_iff.1 hr.1;have R:Rel1 σ v (.lst .any 2 []):=hr.2 0 v _ rfl rfl;obtain ⟨A,cap,b,o,news,rfl,_⟩:=cd R;have T: ∀(w:World) (a:Option Addr) (n c:Nat),(binOp .eql 22 (.slice a n c) (.slice none 0 0)).run Tryz.prog w= .ok (.bool a.isNone) w:=fun w a n c=>by simp [binOp,run_equal_slice_nil w _ _ a n c Tryz.underlying22]
 obtain ⟨i0,I,_⟩:=info_parts zf;have hrel: ∀(A:Option Addr) (cap:Nat),RelR σ (.slice A 0 cap) (.lst .any 2 []):=fun A cap=> .lst .any 2 [] A 0 cap 0 0 (fun _ _=>undef) rfl (by omega) (fun h=>by omega) (fun i c h=>by simp at h) (fun i j h=>by omega) (fun i j c a h=>by simp at h) trivial
 cases A with
 |none=>
  go_enter Tryz.func82,Tryz.ntmps82
  go_wp2
  go_ret
  exact ⟨σ,_,rfl,Ext.refl _ _,C,Below.refl _ _,hrel none 0⟩
 |some a=>
  have g:=fun ty=>cOz (P:=Tryz.prog) (w.alloc (.cells #[] 52)) 22 ty 52 Tryz.underlying22 I (some ⟨w.heap.size,0,none⟩) (some a) 0 0 cap (by omega)
  go_enter Tryz.func82,Tryz.ntmps82
  go_wp2_with (at_builtin;refine Lib.wpList_append_run _ rfl _ _ _ _ rfl _ _ rfl rfl _ _ (g _) ?_)
  go_wp2
  go_ret
  have r:Below w.heap.size w (w.alloc (.cells #[] 52)):=(Below.refl _ _).alloc (gA4 _) _;exact ⟨σ,_,rfl,Ext.refl _ _,fun b q v J=>(r.cell (p:=⟨b,q,none⟩) (World.block_lt_of_cell? w _ (C _ _ _ J))).trans (C _ _ _ J),r,hrel _ _⟩
theorem Ng (s:ByteArray) (R:s.size≤1000000):AC Tryz.prog 17 [.str s] (.bool (p8 s)):=by
 have h:=wb 47 s R;have hl:=pT 47 s;refine kE Tryz.func17 tW tX fun E T=> ?_
 refine kW ?_;refine kQ [.v (.lst .any 1 (aRz (cj 47 s)))] ?_;refine kW ?_;refine aJ (fun k:Nat=>(ar [(0,.str s),(6,.lst .any 1 (aRz (cj 47 s))),(7,.int .i64 (aRz (cj 47 s)).length),(8,.int .i64 k)],⟨ag [],fun _=>0⟩)) (fun k=>k≤(cj 47 s).length∧ ∀(j:Nat) w,j<k→(cj 47 s)[j]? =some w→sP w=true) (fun k=>(cj 47 s).length-k) 0 ⟨gB8 _,fun j w h=>by omega⟩ (wO ⟨kI,kI,kI,kI,trivial⟩ trivial rfl rfl) fun k ⟨U,i⟩=> ?_
 refine kW ?_;refine kC (fun hb=> ?_) fun hb=> ?_
 ·have g:k<(cj 47 s).length:=by simpa [bm] using hb
  obtain ⟨x,hg⟩: ∃x,(cj 47 s)[k]? =some x:=⟨_,gA1 g⟩
  have J:=wc (gA2 hg);have hc:=yP x ⟨#[95]⟩;refine kW ?_;refine kP [.c [.str x]] ?_ ?_
  ·((repeat' apply aI)<;>first|exact kD|(intro p;refine ⟨?_,kG⟩;(repeat' apply aI)<;>first|exact kD|skip)|skip)
   ·exact lT hg
  refine kW ?_;refine kP [.v (.str (fC x ⟨#[95]⟩)),.v (.bool (dF (fC x ⟨#[95]⟩)))] ?_ ?_
  ·((repeat' apply aI)<;>first|exact kD|(intro p;refine ⟨?_,kG⟩;(repeat' apply aI)<;>first|exact kD|skip)|skip)
   all_goals first|exact Jm _ _|exact Em _ (by omega)|skip
  refine kC (fun hb=> ?_) fun hb=> ?_
  ·refine kW ?_
   refine aR ⟨_,rfl,?_⟩;have r:sP x=false:=by rw [sP,hb];rfl
   have C:(cj 47 s).all sP=false:=List.all_eq_false.2 ⟨x,gA2 hg,by rw [r];simp⟩;rw [p8,C];rfl
  ·have r:sP x=true:=by rw [sP,hb];rfl
   refine kW ?_
   exact AK.lp ⟨k+1,⟨by omega,fun j w h I=>by
    by_cases e:j=k
    ·subst e;rw [hg] at I;cases I;exact r
    ·exact i j w (by omega) I⟩,wO ⟨kI,kI,kI,kU,trivial⟩ trivial rfl rfl,by omega⟩
 ·have g:k=(cj 47 s).length:=by have:(cj 47 s).length≤k:=by simpa [bm] using hb
                                omega
  subst g;refine AK.exit rfl ?_;refine kW ?_;refine aR ⟨_,rfl,?_⟩
  have C:(cj 47 s).all sP=true:=List.all_eq_true.2 fun x J=>by
   obtain ⟨j,P⟩:=List.getElem?_of_mem J;exact i j x (gA0 P).1 P
  rw [p8,C];exact congrArg AV.bool (by rw [Bool.true_and,Bool.eq_iff_iff,gB0,gB0];omega)
end Go.Proofs.YtbgflifmanjpjaaGreatDoor
