/- Part 21. -/
import Derived.Test.YtbgflifmanjpjaaGreatDoorS20
set_option linter.unusedSimpArgs false
set_option linter.unusedVariables false
namespace Go.Proofs.YtbgflifmanjpjaaGreatDoor
open Go.RowKit
set_option maxRecDepth 100000 in
theorem rG:AC Tryz.prog 131 [.lst .any 7 []] (.lst .full 7 []):=by
 refine ⟨ct,fun σ w vs C hr hg=> ?_⟩;obtain ⟨v,rfl⟩:=List.length_eq_one_iff.1 hr.1;have R:Rel1 σ v (.lst .any 7 []):=hr.2 0 v _ rfl rfl;obtain ⟨A,cap,b,o,news,rfl,_⟩:=cC R;have T: ∀(w:World) (a:Option Addr) (n c:Nat),(binOp .eql 24 (.slice a n c) (.slice none 0 0)).run Tryz.prog w= .ok (.bool a.isNone) w:=fun w a n c=>by simp [binOp,run_equal_slice_nil w _ _ a n c Tryz.underlying24]
 obtain ⟨i0,I,_⟩:=info_parts de;have hrel: ∀(A:Option Addr),RelR σ (.slice A 0 0) (.lst .full 7 []):=fun A=> .lst .full 7 [] A 0 0 0 0 (fun _ _=>undef) rfl (by omega) (fun h=>by omega) (fun i c h=>by simp at h) (fun i j h=>by omega) (fun i j c a h=>by simp at h) rfl
 cases A with
 |none=>
  go_enter Tryz.func131,Tryz.ntmps131
  go_wp2
  go_ret
  exact ⟨σ,_,rfl,Ext.refl _ _,C,Below.refl _ _,hrel none⟩
 |some a=>
  have g:=fun ty=>cx (P:=Tryz.prog) (w.alloc (.cells #[] 78)) 24 ty 78 Tryz.underlying24 I (some ⟨w.heap.size,0,none⟩) (some a) 0 0 cap (by omega)
  go_enter Tryz.func131,Tryz.ntmps131
  go_wp2_with (at_builtin;refine Lib.wpList_append_run _ rfl _ _ _ _ rfl _ _ rfl rfl _ _ (g _) ?_)
  go_wp2
  go_ret
  have r:Below w.heap.size w (w.alloc (.cells #[] 78)):=(Below.refl _ _).alloc (gA4 _) _;exact ⟨σ,_,rfl,Ext.refl _ _,fun b q v J=>(r.cell (p:=⟨b,q,none⟩) (World.block_lt_of_cell? w _ (C _ _ _ J))).trans (C _ _ _ J),r,hrel _⟩
theorem FD {key:ByteArray} {x:V} {m:List (ByteArray×V)} (h:Rises m):lm (m++ [(key,x)])=ap key x m:=by
 have:=nR (l:=m++ [(key,x)]) (k:=m.length) (p:=(key,x)) (by simp);rw [List.take_of_length_le (by simp),List.take_left',AM h] at this
 ·exact this
 ·rfl
theorem mc (v:V) (key:ByteArray) (x:V) (I:v.ord) (U:v.size+x.size≤1000000000000):AC Tryz.prog 128 [(vA (v)),.str key,(vA (x))] ((vA ((b8 (ap key x v.m))))):=by
 have g:=(V.ord_eq v).1 I;have J:=v.size_eq;have j:=bz v.m
 have hsz:aF (v.m++ [(key,x)])≤1000000000000:=by
  have: ∀m:List (ByteArray×V),aF (m++ [(key,x)])=aF m+x.size:=by
   intro m
   induction m with
   |nil=>simp [aF]
   |cons p m ih=>obtain ⟨k,u⟩:=p;simp only [List.cons_append,aF,ih];omega
  rw [this];omega
 have C:=l9 (v.m++ [(key,x)]) hsz;rw [FD g.2.2.1,pf,am,am,bR] at C;show AC Tryz.prog 128 [(vA (v)),.str key,(vA (x))] (.agg [.int .i64 5,.bool false,.int .i64 0,.str ⟨#[]⟩,.lst .any 6 [],.lst .any 7 (am (ap key x v.m))]);by_cases r:v.kind=5
 ·have P:=g.1 r
  generalize v.m=m at*;subst P;refine kE Tryz.func128 ni nj fun E R=> ?_
  refine kW ?_;refine kC (fun hb=> ?_) fun hb=> ?_
  ·cases hb
  cases m with
  |nil=>
   refine kW ?_;refine kP [.v (.lst .full 7 []),.v (.agg [.int .i64 5,.bool false,.int .i64 0,.str ⟨#[]⟩,.lst .any 6 [],.lst .any 7 (am (ap key x []))])] ?_ ?_
   ·((repeat' apply aI)<;>first|exact kD|(intro i;refine ⟨?_,kG⟩;(repeat' apply aI)<;>first|exact kD|skip)|skip)
    ·exact rG
   refine kW ?_;refine aR ⟨_,rfl,?_⟩;rfl
  |cons p m=>
   refine kW ?_;refine kP [.o 7 (am (p::m)),.v (.agg [.int .i64 5,.bool false,.int .i64 0,.str ⟨#[]⟩,.lst .any 6 [],.lst .any 7 (am (ap key x (p::m)))])] ?_ ?_
   ·((repeat' apply aI)<;>first|exact kD|(intro i;refine ⟨?_,kG⟩;(repeat' apply aI)<;>first|exact kD|skip)|skip)
    ·exact qo (am (p::m)) (by rw [au];simp) (by rw [au];omega)
    all_goals simp only [au,List.length_nil,gA3,List.length_map] at j⊢
    all_goals omega
   refine kW ?_;refine aR ⟨_,rfl,?_⟩;rfl
 ·have T:=g.2.1 r
  rw [T] at C⊢;refine kE Tryz.func128 ni nj fun E R=> ?_
  refine kW ?_;refine kC (fun hb=> ?_) fun hb=> ?_
  ·refine kW ?_
   refine kP [.v (.lst .full 7 []),.v (.agg [.int .i64 5,.bool false,.int .i64 0,.str ⟨#[]⟩,.lst .any 6 [],.lst .any 7 (am (ap key x []))])] ?_ ?_
   ·((repeat' apply aI)<;>first|exact kD|(intro i;refine ⟨?_,kG⟩;(repeat' apply aI)<;>first|exact kD|skip)|skip)
    ·exact rG
   refine kW ?_;refine aR ⟨_,rfl,?_⟩;rfl
  ·exact absurd (by simpa using hb) r
theorem fS (v:V) (key:ByteArray) (r:v.ord) (hsz:v.size≤1000000000000):AC Tryz.prog 38 [(vA (v)),.str key] (.tup [(vA (((bh key v.m).getD V.null))),.bool (bh key v.m).isSome]):=by
 have C:=v.size_eq;have I:=bz v.m;have g:=(V.ord_eq v).1 r;have p:=g.2.2.1;cases i:bh key v.m with
 |none=>
  refine kE Tryz.func38 m9 na fun E J=> ?_
  refine kW ?_;refine kC (fun hb=> ?_) fun hb=> ?_
  ·refine kW ?_
   refine aR ⟨_,rfl,?_⟩;rfl
  refine kW ?_;refine kP [.v (.tup [.int .i64 (bN key v.m:Nat),.bool (b7 key v.m)])] ?_ ?_
  ·((repeat' apply aI)<;>first|exact kD|(intro j;refine ⟨?_,kG⟩;(repeat' apply aI)<;>first|exact kD|skip)|skip)
   ·exact l7 v.m key p (by omega)
  rw [AE i];refine kW ?_;refine kC (fun hb=> ?_) fun hb=> ?_
  ·refine kW ?_
   refine aR ⟨_,rfl,?_⟩;rfl
  ·cases hb
 |some x=>
  obtain ⟨P,R⟩:=AD p i;have T:=C1 i;refine kE Tryz.func38 m9 na fun E J=> ?_
  refine kW ?_;refine kC (fun hb=> ?_) fun hb=> ?_
  ·have U:v.kind≠5:=by simpa using hb
   rw [g.2.1 U] at i;cases i
  refine kW ?_;refine kP [.v (.tup [.int .i64 (bN key v.m:Nat),.bool (b7 key v.m)])] ?_ ?_
  ·((repeat' apply aI)<;>first|exact kD|(intro j;refine ⟨?_,kG⟩;(repeat' apply aI)<;>first|exact kD|skip)|skip)
   ·exact l7 v.m key p (by omega)
  rw [R];refine kW ?_;refine kC (fun hb=> ?_) fun hb=> ?_
  ·cases hb
  ·refine kW ?_
   refine kP [.c (.str key::(vC (x))),.v ((vA (x)))] ?_ ?_
   ·((repeat' apply aI)<;>first|exact kD|(intro j;refine ⟨?_,kG⟩;(repeat' apply aI)<;>first|exact kD|skip)|skip)
    ·exact bm P
    ·exact lj x (by omega)
   refine kW ?_;refine aR ⟨_,rfl,?_⟩;rfl
end Go.Proofs.YtbgflifmanjpjaaGreatDoor
