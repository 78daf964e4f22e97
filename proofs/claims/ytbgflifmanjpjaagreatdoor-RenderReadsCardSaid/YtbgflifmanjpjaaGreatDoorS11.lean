/- Part 11. -/
import Derived.Test.YtbgflifmanjpjaaGreatDoorS10
import Derived.WalkLawsBesides
import Derived.WalkSpells
import Derived.Deep.QuietTactic
import Derived.Lib.AppendZeros
import Derived.Laws.Cover3
set_option linter.unusedSimpArgs false
set_option linter.unusedVariables false
namespace Go.Proofs.YtbgflifmanjpjaaGreatDoor
section
open Go.RowKit
theorem dz {z:Array Value} (r: ∀u∈z.toList,u.oneCell' =true) (n:Nat): ∀u∈(Builtin.zeroCells z n).toList,u.oneCell' =true:=by
 intro u p;simp only [Builtin.zeroCells,Array.toList_map,List.mem_map] at p;obtain ⟨i,hi,rfl⟩:=p;have g:i<n*z.size:=by simpa using hi
 have C:0<z.size:=by
  rcases Nat.eq_zero_or_pos z.size with h|h
  ·rw [h] at g;omega
  ·exact h
 have j:i%z.size<z.size:=Nat.mod_lt _ C;rw [getElem!_pos z _ j];exact r _ (by simp)
theorem FRowW.new {σ:Sg} {w w1:World} (p:Holds σ w) (P:w.heap.size≤w1.heap.size) {e:TypeId} {news g:List Value} {esz cap:Nat} {rows:List (List AV)} (hr:RelL σ news rows.flatten) (hl: ∀c∈rows,c.length=esz) (hn:news.length=rows.length*esz) (r: ∀u∈g,u.oneCell' =true)
  (C:news.length+g.length=cap*esz) (i:rows.length≤cap):FRowW σ (w1.alloc (.cells (news++g).toArray e)) w1.heap.size cap esz rows:=by
 refine ⟨e,_,heap_alloc_new w1 _,by simpa using C,i,hl,?_,fun u I=> ?_,fun j=> ?_⟩
 ·rw [←hn]
  simpa using hr
 ·rcases gB5 (by simpa using I) with h|h
  ·exact hr.one u h
  ·exact r u h
 ·cases J:σ w1.heap.size j with
  |none=>rfl
  |some v=>
   have:=World.block_lt_of_cell? w _ (p _ _ _ J);simp at this;omega
def F0:Value:= .agg #[.int .i64 0,.bool false,.int .i64 0,.string ⟨#[]⟩,.slice none 0 0,.slice none 0 0]
theorem BY:(Tryz.prog.info? 26).map (fun i=>(i.zero,i.size,i.bytes))=some (some F0,6,88):=kk
set_option maxRecDepth 100000 in
theorem yO (rows:List (List AV)) (P:0<rows.length) (hb:rows.length*88≤140737488355328):MF Tryz.prog 130 [.lst .any 6 rows] 6 rows:=by
 refine ⟨eo,fun σ w vs J hr hg=> ?_⟩;obtain ⟨v,rfl⟩:=List.length_eq_one_iff.1 hr.1;have h1:Rel1 σ v (.lst .any 6 rows):=hr.2 0 v _ rfl rfl;obtain ⟨A,cap,b,o,news,rfl,hcap,hA,hsz,g,hrel,i⟩:=cd h1;have:=hA P;subst this;obtain ⟨i0,R,T,U,hzb⟩:=info_parts BY
 obtain ⟨r,hz1,hz2,C⟩: ∃r:List Value,(∀u∈r,u.oneCell' =true)∧rows.length*6+r.length=grownCap (w.alloc (.cells #[] 26)) (0+rows.length) 0 26*6∧
   ∀ty,(Builtin.append_ #[23,23] ty #[.slice (some ⟨w.heap.size,0,none⟩) 0 0,.slice (some ⟨b,o,none⟩) rows.length cap]).run Tryz.prog (w.alloc (.cells #[] 26))=
    .ok (.slice (some ⟨w.heap.size+1,0,none⟩) rows.length (grownCap (w.alloc (.cells #[] 26)) (0+rows.length) 0 26)) ((w.alloc (.cells #[] 26)).drew.alloc (.cells (news++r).toArray 26)):=by
  have hge:=grownCap_ge (w.alloc (.cells #[] 26)) (0+rows.length) 0 26;refine ⟨(Builtin.zeroCells F0.cells (grownCap (w.alloc (.cells #[] 26)) (0+rows.length) 0 26-(0+rows.length))).toList,dz (by simp [F0,Value.cells,Value.oneCell']) _,?_,fun ty=> ?_⟩
  ·have:(F0.cells).size=6:=rfl
   simp only [Array.length_toList,size_zeroCells,this];rw [←gC3];congr 1;omega
  ·have:=run_append_grow (w.alloc (.cells #[] 26)) 23 ty 26 i0 _ Tryz.underlying23 R T ⟨w.heap.size,0,none⟩ 0 0 [] (by simp) (fun j v h=>by simp at h) ⟨b,o,none⟩ rows.length cap news (by rw [U];exact g)
    (fun j v hj=>by
     rw [Addr.add_lit];have h2:=J _ _ _ (i j v hj);rw [World.cell?_alloc_lt w _ _ (World.block_lt_of_cell? w _ h2)];exact h2) (by omega) (by omega) (by rw [hzb];exact growslice_fits (by omega) (by omega))
   rw [this];simp;congr 2;apply Array.ext';simp
 have q24: ∀(w:World) (a:Option Addr) (n c:Nat),(binOp .eql 23 (.slice a n c) (.slice none 0 0)).run Tryz.prog w= .ok (.bool a.isNone) w:=fun w a n c=>by simp [binOp,run_equal_slice_nil w _ _ a n c Tryz.underlying23]
 go_enter Tryz.func130,Tryz.ntmps130
 go_wp2_with (at_builtin;refine Lib.wpList_append_run _ rfl _ _ _ _ rfl _ _ rfl rfl _ _ (C _) ?_)
 go_wp2
 go_ret
 have hge:=grownCap_ge (w.alloc (.cells #[] 26)) (0+rows.length) 0 26;have I:Below w.heap.size w ((w.alloc (.cells #[] 26)).drew.alloc (.cells (news++r).toArray 26)):=(((Below.refl _ _).alloc (gA4 _) _).drew).alloc (by simp) _
 exact ⟨σ,w.heap.size+1,_,rfl,Ext.refl _ _,fun b q v hv=>(I.cell (p:=⟨b,q,none⟩) (World.block_lt_of_cell? w _ (J _ _ _ hv))).trans (J _ _ _ hv),I,by omega,
  by
   have:=FRowW.new (w1:=(w.alloc (.cells #[] 26)).drew) J (by simp) (e:=26) hrel hsz g hz1 (by rw [g];exact hz2) (by omega);have e:(w.alloc (.cells #[] 26)).drew.heap.size=w.heap.size+1:=by simp
   rw [e,Nat.zero_add] at this;exact this⟩
def fT:Value:= .agg #[.string ⟨#[]⟩,.int .i64 0,.bool false,.int .i64 0,.string ⟨#[]⟩,.slice none 0 0,.slice none 0 0]
theorem dA:(Tryz.prog.info? 78).map (fun i=>(i.zero,i.size,i.bytes))=some (some fT,7,104):=kk
set_option maxRecDepth 100000 in
theorem qR (rows:List (List AV)) (P:0<rows.length) (hb:rows.length*104≤140737488355328):MF Tryz.prog 131 [.lst .any 7 rows] 7 rows:=by
 refine ⟨cJ,fun σ w vs J hr hg=> ?_⟩;obtain ⟨v,rfl⟩:=List.length_eq_one_iff.1 hr.1;have h1:Rel1 σ v (.lst .any 7 rows):=hr.2 0 v _ rfl rfl;obtain ⟨A,cap,b,o,news,rfl,hcap,hA,hsz,g,hrel,i⟩:=cd h1;have:=hA P;subst this;obtain ⟨i0,R,T,U,hzb⟩:=info_parts dA
 obtain ⟨r,hz1,hz2,C⟩: ∃r:List Value,(∀u∈r,u.oneCell' =true)∧rows.length*7+r.length=grownCap (w.alloc (.cells #[] 78)) (0+rows.length) 0 78*7∧
   ∀ty,(Builtin.append_ #[24,24] ty #[.slice (some ⟨w.heap.size,0,none⟩) 0 0,.slice (some ⟨b,o,none⟩) rows.length cap]).run Tryz.prog (w.alloc (.cells #[] 78))=
    .ok (.slice (some ⟨w.heap.size+1,0,none⟩) rows.length (grownCap (w.alloc (.cells #[] 78)) (0+rows.length) 0 78)) ((w.alloc (.cells #[] 78)).drew.alloc (.cells (news++r).toArray 78)):=by
  have hge:=grownCap_ge (w.alloc (.cells #[] 78)) (0+rows.length) 0 78;refine ⟨(Builtin.zeroCells fT.cells (grownCap (w.alloc (.cells #[] 78)) (0+rows.length) 0 78-(0+rows.length))).toList,dz (by simp [fT,Value.cells,Value.oneCell']) _,?_,fun ty=> ?_⟩
  ·have:(fT.cells).size=7:=rfl
   simp only [Array.length_toList,size_zeroCells,this];rw [←gC3];congr 1;omega
  ·have:=run_append_grow (w.alloc (.cells #[] 78)) 24 ty 78 i0 _ Tryz.underlying24 R T ⟨w.heap.size,0,none⟩ 0 0 [] (by simp) (fun j v h=>by simp at h) ⟨b,o,none⟩ rows.length cap news (by rw [U];exact g)
    (fun j v hj=>by
     rw [Addr.add_lit];have h2:=J _ _ _ (i j v hj);rw [World.cell?_alloc_lt w _ _ (World.block_lt_of_cell? w _ h2)];exact h2) (by omega) (by omega) (by rw [hzb];exact growslice_fits (by omega) (by omega))
   rw [this];simp;congr 2;apply Array.ext';simp
 have q24: ∀(w:World) (a:Option Addr) (n c:Nat),(binOp .eql 24 (.slice a n c) (.slice none 0 0)).run Tryz.prog w= .ok (.bool a.isNone) w:=fun w a n c=>by simp [binOp,run_equal_slice_nil w _ _ a n c Tryz.underlying24]
 go_enter Tryz.func131,Tryz.ntmps131
 go_wp2_with (at_builtin;refine Lib.wpList_append_run _ rfl _ _ _ _ rfl _ _ rfl rfl _ _ (C _) ?_)
 go_wp2
 go_ret
 have hge:=grownCap_ge (w.alloc (.cells #[] 78)) (0+rows.length) 0 78;have I:Below w.heap.size w ((w.alloc (.cells #[] 78)).drew.alloc (.cells (news++r).toArray 78)):=(((Below.refl _ _).alloc (gA4 _) _).drew).alloc (by simp) _
 exact ⟨σ,w.heap.size+1,_,rfl,Ext.refl _ _,fun b q v hv=>(I.cell (p:=⟨b,q,none⟩) (World.block_lt_of_cell? w _ (J _ _ _ hv))).trans (J _ _ _ hv),I,by omega,
  by
   have:=FRowW.new (w1:=(w.alloc (.cells #[] 78)).drew) J (by simp) (e:=78) hrel hsz g hz1 (by rw [g];exact hz2) (by omega);have e:(w.alloc (.cells #[] 78)).drew.heap.size=w.heap.size+1:=by simp
   rw [e,Nat.zero_add] at this;exact this⟩
set_option maxRecDepth 100000 in
theorem vX:AC Tryz.prog 130 [.lst .any 6 []] (.lst .any 6 []):=by
 refine ⟨eo,fun σ w vs C hr hg=> ?_⟩;obtain ⟨v,rfl⟩:=List.length_eq_one_iff.1 hr.1;have R:Rel1 σ v (.lst .any 6 []):=hr.2 0 v _ rfl rfl;obtain ⟨A,cap,b,o,news,rfl,_⟩:=cd R;have T: ∀(w:World) (a:Option Addr) (n c:Nat),(binOp .eql 23 (.slice a n c) (.slice none 0 0)).run Tryz.prog w= .ok (.bool a.isNone) w:=fun w a n c=>by simp [binOp,run_equal_slice_nil w _ _ a n c Tryz.underlying23]
 obtain ⟨i0,I,_⟩:=info_parts BY;have hrel: ∀(A:Option Addr) (cap:Nat),RelR σ (.slice A 0 cap) (.lst .any 6 []):=fun A cap=> .lst .any 6 [] A 0 cap 0 0 (fun _ _=>undef) rfl (by omega) (fun h=>by omega) (fun i c h=>by simp at h) (fun i j h=>by omega) (fun i j c a h=>by simp at h) trivial
 cases A with
 |none=>
  go_enter Tryz.func130,Tryz.ntmps130
  go_wp2
  go_ret
  exact ⟨σ,_,rfl,Ext.refl _ _,C,Below.refl _ _,hrel none 0⟩
 |some a=>
  have g:=fun ty=>cOz (P:=Tryz.prog) (w.alloc (.cells #[] 26)) 23 ty 26 Tryz.underlying23 I (some ⟨w.heap.size,0,none⟩) (some a) 0 0 cap (by omega)
  go_enter Tryz.func130,Tryz.ntmps130
  go_wp2_with (at_builtin;refine Lib.wpList_append_run _ rfl _ _ _ _ rfl _ _ rfl rfl _ _ (g _) ?_)
  go_wp2
  go_ret
  have r:Below w.heap.size w (w.alloc (.cells #[] 26)):=(Below.refl _ _).alloc (gA4 _) _;exact ⟨σ,_,rfl,Ext.refl _ _,fun b q v J=>(r.cell (p:=⟨b,q,none⟩) (World.block_lt_of_cell? w _ (C _ _ _ J))).trans (C _ _ _ J),r,hrel _ _⟩
set_option maxRecDepth 100000 in
theorem vY:AC Tryz.prog 131 [.lst .any 7 []] (.lst .any 7 []):=by
 refine ⟨cJ,fun σ w vs C hr hg=> ?_⟩;obtain ⟨v,rfl⟩:=List.length_eq_one_iff.1 hr.1;have R:Rel1 σ v (.lst .any 7 []):=hr.2 0 v _ rfl rfl;obtain ⟨A,cap,b,o,news,rfl,_⟩:=cd R;have T: ∀(w:World) (a:Option Addr) (n c:Nat),(binOp .eql 24 (.slice a n c) (.slice none 0 0)).run Tryz.prog w= .ok (.bool a.isNone) w:=fun w a n c=>by simp [binOp,run_equal_slice_nil w _ _ a n c Tryz.underlying24]
 obtain ⟨i0,I,_⟩:=info_parts dA;have hrel: ∀(A:Option Addr) (cap:Nat),RelR σ (.slice A 0 cap) (.lst .any 7 []):=fun A cap=> .lst .any 7 [] A 0 cap 0 0 (fun _ _=>undef) rfl (by omega) (fun h=>by omega) (fun i c h=>by simp at h) (fun i j h=>by omega) (fun i j c a h=>by simp at h) trivial
 cases A with
 |none=>
  go_enter Tryz.func131,Tryz.ntmps131
  go_wp2
  go_ret
  exact ⟨σ,_,rfl,Ext.refl _ _,C,Below.refl _ _,hrel none 0⟩
 |some a=>
  have g:=fun ty=>cOz (P:=Tryz.prog) (w.alloc (.cells #[] 78)) 24 ty 78 Tryz.underlying24 I (some ⟨w.heap.size,0,none⟩) (some a) 0 0 cap (by omega)
  go_enter Tryz.func131,Tryz.ntmps131
  go_wp2_with (at_builtin;refine Lib.wpList_append_run _ rfl _ _ _ _ rfl _ _ rfl rfl _ _ (g _) ?_)
  go_wp2
  go_ret
  have r:Below w.heap.size w (w.alloc (.cells #[] 78)):=(Below.refl _ _).alloc (gA4 _) _;exact ⟨σ,_,rfl,Ext.refl _ _,fun b q v J=>(r.cell (p:=⟨b,q,none⟩) (World.block_lt_of_cell? w _ (C _ _ _ J))).trans (C _ _ _ J),r,hrel _ _⟩
end
section
open Go.RowKit
theorem BZ (l:List V):RowsOk 6 (aL l):=by
 refine ⟨by omega,fun c g=> ?_⟩
 induction l with
 |nil=>simp [aL] at g
 |cons x l ih=>
  rw [aL] at g;rcases gB2 g with rfl|g
  ·rw [b9];exact ⟨rfl,rfl⟩
  ·exact ih g
theorem pL (l:List (ByteArray×V)):RowsOk 7 (am l):=by
 refine ⟨by omega,fun c g=> ?_⟩
 induction l with
 |nil=>simp [am] at g
 |cons x l ih=>
  obtain ⟨y,x⟩:=x;rw [am] at g;rcases gB2 g with rfl|g
  ·rw [b9];exact ⟨rfl,rfl⟩
  ·exact ih g
structure RowCs (esz:Nat) (rows:List (List AV)) (cap:Nat) (cs:List AV):Prop where
 ok:RowsOk esz rows
 sp: ∃sp,cs=rows.flatten++sp
 len:cs.length=cap*esz
 cap:rows.length≤cap
 un:cs.map AV.unown=cs
theorem RowCs.mk_ {esz:Nat} {rows:List (List AV)} (h:RowsOk esz rows) {cap m:Nat} (g:rows.length≤cap) (hl:(rows.flatten++List.replicate m AV.top).length=cap*esz):RowCs esz rows cap (rows.flatten++List.replicate m AV.top):=
 ⟨h,⟨_,rfl⟩,hl,g,by rw [List.map_append,h.flat.2];simp [AV.unown]⟩
theorem RowCs.row {esz:Nat} {rows:List (List AV)} {cap:Nat} {cs:List AV} (h:RowCs esz rows cap cs) {i:Nat} {c:List AV} (g:rows[i]? =some c):c.length=esz∧(cs.drop (i*esz)).take esz=c:=by
 have hl:=(h.ok.2 c (gA2 g)).1;refine ⟨hl,List.ext_getElem? fun j=> ?_⟩;obtain ⟨sp,rfl⟩:=h.sp;rw [List.getElem?_take,List.getElem?_drop];split
 ·rename_i C
  have p:c[j]? =some c[j]:=gA1 (by omega);have r:=h.ok.at_ g p;rw [gC1 (gA0 r).1,r,p]
 ·rw [List.getElem?_eq_none (by omega)]
theorem El {d id cap:Nat} {cs:List AV} (h:cs.map AV.unown=cs):cs.map (jR d id cap)=cs:=by
 apply List.ext_getElem?;intro j;rw [gA8];cases i:cs[j]? with
 |none=>rfl
 |some c=>
  have g:(cs.map AV.unown)[j]? =some c:=by rw [h];exact i
  rw [gA8,i] at g;simp only [Option.map_some,gB9] at g;cases c<;>first|rfl|cases g
theorem AK.open2 {P:Program} {E:Env} {Q:Exit→Fr→St→Prop} {k:List AItem} {fr:Fr} {st:St} {a:ACode} (d id:Nat) {esz:Nat} {rows:List (List AV)} (j:fr d=some (.frs d esz rows)) (hid:1000000≤id) (g:st.box id=none) (hro:RowsOk esz rows)
  (h: ∀cap cs,RowCs esz rows cap cs→AK P E Q (.c a::k) (GY d id cap fr) (GZ d id cap cs st)) (i:id<2000000:=by omega) (hmp:ew id=false:=by rfl):AK P E Q (.c a::k) fr st:=
 AK.open d d id j hid g (fun cap m p hl=>h cap _ (RowCs.mk_ hro p hl)) i hmp
theorem RowCs.le {esz:Nat} {rows:List (List AV)} {cap:Nat} {cs:List AV} (h:RowCs esz rows cap cs) {st:St} {id:Nat} (hb:st.box id=some (cs,true)) (hmp:cC id=false:=by rfl):AVle1 st (.sli id esz rows.length cap) (.lst .any esz rows):=by
 obtain ⟨sp,rfl⟩:=h.sp;exact .frz id esz cap rows sp hb h.ok hmp
theorem Hc (n:Nat) (ih: ∀v:V,v.size≤n→AC Tryz.prog 78 [(vA (v))] ((vA (v)))) (v:V) (hn:v.size≤n+1) (hb:v.size≤1000000000000):AC Tryz.prog 78 [(vA (v))] ((vA (v))):=by
 have hve:=v.size_eq;have hll:=br v.l;have hlm:=aZ v.m;refine kE Tryz.func78 tk tm fun E hE=> ?_
 refine kW ?_;by_cases hl:v.l= []
 ·by_cases U:v.m= []
  ·skip
   refine kP [.v (.lst .any 6 (aL v.l)),.v (.lst .any 7 (am v.m))] ?_ ?_
   ·((repeat' apply aI)<;>first|exact kD|(intro I;refine ⟨?_,kG⟩;(repeat' apply aI)<;>first|exact kD|skip)|skip)
    ·rw [hl];exact vX
    ·rw [U];exact vY
   (repeat (first|apply AK.seq|apply AK.block|apply AK.blk|apply AK.skip))
   refine kW ?_
   refine aJ (fun i:Nat=>(ar [(1,.ptr 1 0),(2,.ptr 2 0),(15,.int .i64 (aL v.l).length),(16,.int .i64 i)],⟨ag [(1,[.int .i64 v.kind,.bool v.b,.int .i64 v.n,.str v.s,.lst .any 6 (aL v.l),.lst .any 7 (am v.m)],false),(2,[.int .i64 0,.bool false,.int .i64 0,.str ⟨#[]⟩,.lst .nil 6 [],.lst .nil 7 []],false),],fun _=>0⟩))
    (fun i=>i≤v.l.length) (fun i=>v.l.length-i) 0 (by omega) (wO ⟨kI,kI,kI,kI,trivial⟩ ⟨kJ,kJ,trivial⟩ rfl rfl (by exact trivial)) fun k hk=> ?_
   refine kW ?_;refine kC (fun hb=> ?_) fun hb=> ?_
   ·have j:k<v.l.length:=by simpa [aB] using hb
    rw [hl] at j;simp at j
   ·refine AK.exit rfl ?_
    (repeat (first|apply AK.seq|apply AK.block|apply AK.blk|apply AK.skip))
    refine kW ?_
    refine aJ (fun i:Nat=>(ar [(1,.ptr 1 0),(2,.ptr 2 0),(32,.int .i64 (am v.m).length),(33,.int .i64 i)],⟨ag [(1,[.int .i64 v.kind,.bool v.b,.int .i64 v.n,.str v.s,.lst .any 6 (aL v.l),.lst .any 7 (am v.m)],false),(2,[.int .i64 0,.bool false,.int .i64 0,.str ⟨#[]⟩,.lst .nil 6 [],.lst .nil 7 []],false),],fun _=>0⟩))
     (fun i=>i≤v.m.length) (fun i=>v.m.length-i) 0 (by omega) (wO ⟨kI,kI,kI,kI,trivial⟩ ⟨kJ,kJ,trivial⟩ rfl rfl (by exact trivial)) fun k hk=> ?_
    refine kW ?_;refine kC (fun hb=> ?_) fun hb=> ?_
    ·have j:k<v.m.length:=by simpa [ak] using hb
     rw [U] at j;simp at j
    ·refine AK.exit rfl ?_
     (repeat (first|apply AK.seq|apply AK.block|apply AK.blk|apply AK.skip))
     refine kW ?_;refine aR ⟨_,rfl,?_⟩;rfl
  ·skip
   have h2:0<(am v.m).length:=by rw [ak];exact List.length_pos_iff.2 U
   refine kP [.v (.lst .any 6 (aL v.l)),.f 7 (am v.m)] ?_ ?_
   ·((repeat' apply aI)<;>first|exact kD|(intro I;refine ⟨?_,kG⟩;(repeat' apply aI)<;>first|exact kD|skip)|skip)
    ·rw [hl];exact vX
    ·exact qR _ h2 (by rw [ak];omega)
   (repeat (first|apply AK.seq|apply AK.block|apply AK.blk|apply AK.skip))
   refine AK.open2 10 1000010 rfl (by omega) rfl (pL v.m) fun C J p=> ?_
   refine kW ?_
   refine aJ (fun i:Nat=>(ar [(1,.ptr 1 0),(2,.ptr 2 0),(15,.int .i64 (aL v.l).length),(16,.int .i64 i)],⟨ag [(1,[.int .i64 v.kind,.bool v.b,.int .i64 v.n,.str v.s,.lst .any 6 (aL v.l),.sli 1000010 7 (am v.m).length C],false),(2,[.int .i64 0,.bool false,.int .i64 0,.str ⟨#[]⟩,.lst .nil 6 [],.lst .nil 7 []],false),(1000010,J,false)],fun _=>0⟩))
    (fun i=>i≤v.l.length) (fun i=>v.l.length-i) 0 (by omega) (wO ⟨kI,kI,kI,kI,trivial⟩ ⟨kJ,kJ,⟨_,rfl,aJz rfl⟩,trivial⟩ rfl rfl (by exact ⟨p.un,trivial⟩)) fun k hk=> ?_
   refine kW ?_;refine kC (fun hb=> ?_) fun hb=> ?_
   ·have j:k<v.l.length:=by simpa [aB] using hb
    rw [hl] at j;simp at j
   ·refine AK.exit rfl ?_
    (repeat (first|apply AK.seq|apply AK.block|apply AK.blk|apply AK.skip))
    refine kW ?_
    refine aJ (fun i:Nat=>(ar [(1,.ptr 1 0),(2,.ptr 2 0),(32,.int .i64 (am v.m).length),(33,.int .i64 i)],⟨ag [(1,[.int .i64 v.kind,.bool v.b,.int .i64 v.n,.str v.s,.lst .any 6 (aL v.l),.sli 1000010 7 (am v.m).length C],false),(2,[.int .i64 0,.bool false,.int .i64 0,.str ⟨#[]⟩,.lst .nil 6 [],.lst .nil 7 []],false),(1000010,J,false)],fun _=>0⟩))
     (fun i=>i≤v.m.length) (fun i=>v.m.length-i) 0 (by omega) (wO ⟨kI,kI,kI,kI,trivial⟩ ⟨kJ,kJ,kJ,trivial⟩ rfl rfl (by exact ⟨p.un,trivial⟩)) fun k hk=> ?_
    refine kW ?_;refine kC (fun hb=> ?_) fun hb=> ?_
    ·have j:k<v.m.length:=by simpa [ak] using hb
     obtain ⟨⟨y,x⟩,hg⟩: ∃x,v.m[k]? =some x:=⟨_,gA1 j⟩
     have hx:=fa (gA2 hg);simp only at hx;have g:=p.row (aV hg);have P:(k:Int)<(am v.m).length:=by rw [ak];omega
     refine kW ?_;refine kP [.c (.str y::(vC (x))),.v ((vA (x))),.c (.str y::(vC (x)))] ?_ ?_
     ·((repeat' apply aI)<;>first|exact kD|(intro I;refine ⟨?_,kG⟩;(repeat' apply aI)<;>first|exact kD|skip)|skip)
      ·exact g.2
      ·exact ih x (by omega)
      ·exact g.2
     refine kW ?_;refine AK.lp ⟨k+1,by omega,wO ⟨kI,kI,kI,kU,trivial⟩ ⟨kJ,kJ,⟨_,rfl,aJz ?_⟩,trivial⟩ rfl rfl (by exact ⟨p.un,trivial⟩),by omega⟩
     ·have:=uP J (k*7) 7
      rw [g.2] at this;exact this
    ·refine AK.exit rfl ?_
     (repeat (first|apply AK.seq|apply AK.block|apply AK.blk|apply AK.skip))
     refine AK.fz 1000010 rfl ?_;refine AK.weak (wO (L:= [(1,.ptr 1 0),(2,.ptr 2 0)]) (BL:= [(1,(vC (v)),false),(2,[.int .i64 0,.bool false,.int .i64 0,.str ⟨#[]⟩,.lst .nil 6 [],.lst .nil 7 []],false)]) ⟨kI,kI,trivial⟩ ⟨⟨_,rfl,⟨.refl _,.refl _,.refl _,.refl _,.refl _,p.le rfl,trivial⟩⟩,kJ,trivial⟩ rfl rfl (by exact trivial)) ?_;refine kW ?_;refine aR ⟨_,rfl,?_⟩;rfl
 ·by_cases U:v.m= []
  ·skip
   have h1:0<(aL v.l).length:=by rw [aB];exact List.length_pos_iff.2 hl
   refine kP [.f 6 (aL v.l),.v (.lst .any 7 (am v.m))] ?_ ?_
   ·((repeat' apply aI)<;>first|exact kD|(intro I;refine ⟨?_,kG⟩;(repeat' apply aI)<;>first|exact kD|skip)|skip)
    ·exact yO _ h1 (by rw [aB];omega)
    ·rw [U];exact vY
   (repeat (first|apply AK.seq|apply AK.block|apply AK.blk|apply AK.skip))
   refine AK.open2 7 1000007 rfl (by omega) rfl (BZ v.l) fun R T r=> ?_
   refine kW ?_
   refine aJ (fun i:Nat=>(ar [(1,.ptr 1 0),(2,.ptr 2 0),(15,.int .i64 (aL v.l).length),(16,.int .i64 i)],⟨ag [(1,[.int .i64 v.kind,.bool v.b,.int .i64 v.n,.str v.s,.sli 1000007 6 (aL v.l).length R,.lst .any 7 (am v.m)],false),(2,[.int .i64 0,.bool false,.int .i64 0,.str ⟨#[]⟩,.lst .nil 6 [],.lst .nil 7 []],false),(1000007,T,false)],fun _=>0⟩))
    (fun i=>i≤v.l.length) (fun i=>v.l.length-i) 0 (by omega) (wO ⟨kI,kI,kI,kI,trivial⟩ ⟨kJ,kJ,⟨_,rfl,aJz rfl⟩,trivial⟩ rfl rfl (by exact ⟨r.un,trivial⟩)) fun k hk=> ?_
   refine kW ?_;refine kC (fun hb=> ?_) fun hb=> ?_
   ·have j:k<v.l.length:=by simpa [aB] using hb
    obtain ⟨x,hg⟩: ∃x,v.l[k]? =some x:=⟨_,gA1 j⟩
    have hx:=mem_size (gA2 hg);have g:=r.row (dh hg);have P:(k:Int)<(aL v.l).length:=by rw [aB];omega
    refine kW ?_;refine kP [.c ((vC (x))),.v ((vA (x))),.c ((vC (x)))] ?_ ?_
    ·((repeat' apply aI)<;>first|exact kD|(intro I;refine ⟨?_,kG⟩;(repeat' apply aI)<;>first|exact kD|skip)|skip)
     ·exact g.2
     ·exact ih x (by omega)
     ·exact g.2
    refine kW ?_;refine AK.lp ⟨k+1,by omega,wO ⟨kI,kI,kI,kU,trivial⟩ ⟨kJ,kJ,⟨_,rfl,aJz ?_⟩,trivial⟩ rfl rfl (by exact ⟨r.un,trivial⟩),by omega⟩
    ·have:=uP T (k*6) 6
     rw [g.2] at this;exact this
   ·refine AK.exit rfl ?_
    (repeat (first|apply AK.seq|apply AK.block|apply AK.blk|apply AK.skip))
    refine AK.fz 1000007 rfl ?_;refine kW ?_
    refine aJ (fun i:Nat=>(ar [(1,.ptr 1 0),(2,.ptr 2 0),(32,.int .i64 (am v.m).length),(33,.int .i64 i)],⟨ag [(1,[.int .i64 v.kind,.bool v.b,.int .i64 v.n,.str v.s,.lst .any 6 (aL v.l),.lst .any 7 (am v.m)],false),(2,[.int .i64 0,.bool false,.int .i64 0,.str ⟨#[]⟩,.lst .nil 6 [],.lst .nil 7 []],false),],fun _=>0⟩))
     (fun i=>i≤v.m.length) (fun i=>v.m.length-i) 0 (by omega) (wO ⟨kI,kI,kI,kI,trivial⟩ ⟨⟨_,rfl,⟨.refl _,.refl _,.refl _,.refl _,r.le rfl,.refl _,trivial⟩⟩,kJ,trivial⟩ rfl rfl (by exact trivial)) fun k hk=> ?_
    refine kW ?_;refine kC (fun hb=> ?_) fun hb=> ?_
    ·have j:k<v.m.length:=by simpa [ak] using hb
     rw [U] at j;simp at j
    ·refine AK.exit rfl ?_
     (repeat (first|apply AK.seq|apply AK.block|apply AK.blk|apply AK.skip))
     refine kW ?_;refine aR ⟨_,rfl,?_⟩;rfl
  ·skip
   have h1:0<(aL v.l).length:=by rw [aB];exact List.length_pos_iff.2 hl
   have h2:0<(am v.m).length:=by rw [ak];exact List.length_pos_iff.2 U
   refine kP [.f 6 (aL v.l),.f 7 (am v.m)] ?_ ?_
   ·((repeat' apply aI)<;>first|exact kD|(intro I;refine ⟨?_,kG⟩;(repeat' apply aI)<;>first|exact kD|skip)|skip)
    ·exact yO _ h1 (by rw [aB];omega)
    ·exact qR _ h2 (by rw [ak];omega)
   (repeat (first|apply AK.seq|apply AK.block|apply AK.blk|apply AK.skip))
   refine AK.open2 10 1000010 rfl (by omega) rfl (pL v.m) fun C J p=> ?_
   refine AK.open2 7 1000007 rfl (by omega) rfl (BZ v.l) fun R T r=> ?_
   refine kW ?_
   refine aJ (fun i:Nat=>(ar [(1,.ptr 1 0),(2,.ptr 2 0),(15,.int .i64 (aL v.l).length),(16,.int .i64 i)],⟨ag [(1,[.int .i64 v.kind,.bool v.b,.int .i64 v.n,.str v.s,.sli 1000007 6 (aL v.l).length R,.sli 1000010 7 (am v.m).length C],false),(2,[.int .i64 0,.bool false,.int .i64 0,.str ⟨#[]⟩,.lst .nil 6 [],.lst .nil 7 []],false),(1000007,T,false),(1000010,J,false)],fun _=>0⟩))
    (fun i=>i≤v.l.length) (fun i=>v.l.length-i) 0 (by omega) (wO ⟨kI,kI,kI,kI,trivial⟩ ⟨kJ,kJ,⟨_,rfl,aJz rfl⟩,⟨_,rfl,aJz (El p.un)⟩,trivial⟩ rfl rfl (by exact ⟨r.un,p.un,trivial⟩)) fun k hk=> ?_
   refine kW ?_;refine kC (fun hb=> ?_) fun hb=> ?_
   ·have j:k<v.l.length:=by simpa [aB] using hb
    obtain ⟨x,hg⟩: ∃x,v.l[k]? =some x:=⟨_,gA1 j⟩
    have hx:=mem_size (gA2 hg);have g:=r.row (dh hg);have P:(k:Int)<(aL v.l).length:=by rw [aB];omega
    refine kW ?_;refine kP [.c ((vC (x))),.v ((vA (x))),.c ((vC (x)))] ?_ ?_
    ·((repeat' apply aI)<;>first|exact kD|(intro I;refine ⟨?_,kG⟩;(repeat' apply aI)<;>first|exact kD|skip)|skip)
     ·exact g.2
     ·exact ih x (by omega)
     ·exact g.2
    refine kW ?_;refine AK.lp ⟨k+1,by omega,wO ⟨kI,kI,kI,kU,trivial⟩ ⟨kJ,kJ,⟨_,rfl,aJz ?_⟩,kJ,trivial⟩ rfl rfl (by exact ⟨r.un,p.un,trivial⟩),by omega⟩
    ·have:=uP T (k*6) 6
     rw [g.2] at this;exact this
   ·refine AK.exit rfl ?_
    (repeat (first|apply AK.seq|apply AK.block|apply AK.blk|apply AK.skip))
    refine AK.fz 1000007 rfl ?_;refine kW ?_
    refine aJ (fun i:Nat=>(ar [(1,.ptr 1 0),(2,.ptr 2 0),(32,.int .i64 (am v.m).length),(33,.int .i64 i)],⟨ag [(1,[.int .i64 v.kind,.bool v.b,.int .i64 v.n,.str v.s,.lst .any 6 (aL v.l),.sli 1000010 7 (am v.m).length C],false),(2,[.int .i64 0,.bool false,.int .i64 0,.str ⟨#[]⟩,.lst .nil 6 [],.lst .nil 7 []],false),(1000010,J,false)],fun _=>0⟩))
     (fun i=>i≤v.m.length) (fun i=>v.m.length-i) 0 (by omega) (wO ⟨kI,kI,kI,kI,trivial⟩ ⟨⟨_,rfl,⟨.refl _,.refl _,.refl _,.refl _,r.le rfl,.refl _,trivial⟩⟩,kJ,kJ,trivial⟩ rfl rfl (by exact ⟨p.un,trivial⟩)) fun k hk=> ?_
    refine kW ?_;refine kC (fun hb=> ?_) fun hb=> ?_
    ·have j:k<v.m.length:=by simpa [ak] using hb
     obtain ⟨⟨y,x⟩,hg⟩: ∃x,v.m[k]? =some x:=⟨_,gA1 j⟩
     have hx:=fa (gA2 hg);simp only at hx;have g:=p.row (aV hg);have P:(k:Int)<(am v.m).length:=by rw [ak];omega
     refine kW ?_;refine kP [.c (.str y::(vC (x))),.v ((vA (x))),.c (.str y::(vC (x)))] ?_ ?_
     ·((repeat' apply aI)<;>first|exact kD|(intro I;refine ⟨?_,kG⟩;(repeat' apply aI)<;>first|exact kD|skip)|skip)
      ·exact g.2
      ·exact ih x (by omega)
      ·exact g.2
     refine kW ?_;refine AK.lp ⟨k+1,by omega,wO ⟨kI,kI,kI,kU,trivial⟩ ⟨kJ,kJ,⟨_,rfl,aJz ?_⟩,trivial⟩ rfl rfl (by exact ⟨p.un,trivial⟩),by omega⟩
     ·have:=uP J (k*7) 7
      rw [g.2] at this;exact this
    ·refine AK.exit rfl ?_
     (repeat (first|apply AK.seq|apply AK.block|apply AK.blk|apply AK.skip))
     refine AK.fz 1000010 rfl ?_;refine AK.weak (wO (L:= [(1,.ptr 1 0),(2,.ptr 2 0)]) (BL:= [(1,(vC (v)),false),(2,[.int .i64 0,.bool false,.int .i64 0,.str ⟨#[]⟩,.lst .nil 6 [],.lst .nil 7 []],false)]) ⟨kI,kI,trivial⟩ ⟨⟨_,rfl,⟨.refl _,.refl _,.refl _,.refl _,.refl _,p.le rfl,trivial⟩⟩,kJ,trivial⟩ rfl rfl (by exact trivial)) ?_;refine kW ?_;refine aR ⟨_,rfl,?_⟩;rfl
theorem Hd: ∀(n:Nat) (v:V),v.size≤n→v.size≤1000000000000→AC Tryz.prog 78 [(vA (v))] ((vA (v))):=by
 intro n
 induction n with
 |zero=>intro v h;have:=v.size_pos;omega
 |succ n ih=>
  intro v h hb;by_cases hn:v.size≤n
  ·exact ih v hn hb
  ·exact Hc n (fun u g=>ih u g (by omega)) v h hb
theorem fy:Ld:=fun v g=>Hd v.size v (gA4 _) g
def He (c:Nat):Bool:=decide (65≤c)&&decide (c≤90)||decide (97≤c)&&decide (c≤122)
def B3 (c:Nat):Bool:=decide (48≤c)&&decide (c≤57)||decide (c=95)||decide (c=45)||decide (c=46)||decide (c=47)
def fb (k c:Nat):Bool:=He c||(!decide (k=0)&&B3 c)
def fB (s:ByteArray):Bool:=decide (s.size=0)||decide (s=⟨#[110,117,108,108]⟩)||decide (s=⟨#[116,114,117,101]⟩)||decide (s=⟨#[102,97,108,115,101]⟩)
def dF (s:ByteArray):Bool:= !fB s&&decide (∀k,(h:k<s.size)→fb k s[k].toNat=true)
theorem B4 {s:ByteArray} {k:Nat} (h:k<s.size) (hb:fb k s[k].toNat=false):dF s=false:=by
 unfold dF;rw [Bool.and_eq_false_iff];refine .inr (decide_eq_false fun hA=> ?_);rw [hA k h] at hb;cases hb
theorem Hf (s:ByteArray) (I:s.size≤140737488355328):AC Tryz.prog 55 [.str s] (.bool (dF s)):=by
 refine kE Tryz.func55 sX sY fun E J=> ?_
 refine kW ?_;refine kQ [] ?_;refine kC (fun hb=> ?_) fun hb=> ?_
 ·have p:fB s=true:=by
   rw [←hb];unfold fB;simp
  refine kW ?_;refine aR ⟨_,rfl,?_⟩;rw [dF,p];rfl
 have p:fB s=false:=by
  rw [←hb];unfold fB;simp
 refine kW ?_;refine aJ (fun k:Nat=>(ar [(0,.str s),(3,.int .i64 k)],⟨ag [],fun _=>0⟩)) (fun k=>k≤s.size∧ ∀j,(h:j<s.size)→j<k→fb j s[j].toNat=true) (fun k=>s.size-k) 0 ⟨by omega,fun j h r=>by omega⟩ (wO ⟨kI,kI,trivial⟩ trivial rfl rfl) fun k ⟨P,i⟩=> ?_
 refine kW ?_;refine kC (fun hb=> ?_) fun hb=> ?_
 ·have g:k<s.size:=by simpa using hb
  refine kW ?_;refine kQ [] ?_;rw [show s.data.getD (k:Int).toNat 0=s[k] from io g];refine kW ?_;refine kQ [] ?_;refine kW ?_;refine kQ [] ?_;refine kW ?_;refine kQ [] ?_;refine kC (fun hb=> ?_) fun hb=> ?_
  ·have C:fb k s[k].toNat=false:=by
    simp only [Bool.or_eq_true,gA9,Bool.not_eq_true',Bool.or_eq_false_iff,Bool.and_eq_false_iff,gB0,decide_eq_false_iff_not] at hb;simp only [fb,He,B3,Bool.or_eq_false_iff,Bool.and_eq_false_iff,Bool.not_eq_false',gB0,decide_eq_false_iff_not];omega
   refine kW ?_;refine aR ⟨_,rfl,?_⟩;rw [B4 g C];rfl
  ·have ht:fb k s[k].toNat=true:=by
    simp only [Bool.or_eq_true,gA9,Bool.not_eq_false',Bool.or_eq_false_iff,Bool.and_eq_false_iff,gB0,decide_eq_false_iff_not] at hb;simp only [fb,He,B3,Bool.or_eq_true,gA9,Bool.not_eq_true',gB0,decide_eq_false_iff_not];omega
   refine kW ?_
   exact AK.lp ⟨k+1,⟨by omega,fun j h r=>by
    by_cases e:j=k
    ·subst e;exact ht
    ·exact i j h (by omega)⟩,wO ⟨kI,kU,trivial⟩ trivial rfl rfl,by omega⟩
 ·have g:s.size≤k:=by simpa using hb
  refine AK.exit rfl ?_;refine kW ?_;refine aR ⟨_,rfl,?_⟩
  have:dF s=true:=by
   rw [dF,p,Bool.not_false,Bool.true_and];exact decide_eq_true fun j h=>i j h (by omega)
  rw [this];rfl
theorem sw (s:ByteArray) (c:Int):AC Tryz.prog 101 [.str s,.int .u8 c] (.int .i64 (Lib.indexByte s.data.toList c.toNat.toUInt8)):=by
 refine ⟨by kernel_rfl,fun σ w vs g hr hg=> ?_⟩;have hl:vs.length=2:=hr.1
 obtain ⟨v1,v2,rfl⟩: ∃a b,vs= [a,b]:=by
  rcases vs with _|⟨a,_|⟨b,_|⟨d,l⟩⟩⟩<;>simp at hl
  exact ⟨a,b,rfl⟩
 have i:Rel1 σ v1 (.str s):=hr.2 0 v1 _ rfl rfl;have j:Rel1 σ v2 (.int .u8 c):=hr.2 1 v2 _ rfl rfl;cases i;cases j;refine (Tryz.strings_IndexByte s c w).mono ?_;rintro e w' ⟨rfl,rfl⟩;exact ⟨σ,_,rfl,Ext.refl _ _,g,Below.refl _ _,.int _ _⟩
theorem Ji (c:Nat):AC Tryz.prog 99 [.int .u8 c] (.bool (He c)):=by
 refine kE Tryz.func99 oo oq fun E g=> ?_
 refine kW ?_;refine kQ [] ?_;refine kW ?_;refine aR ⟨_,rfl,?_⟩;refine congrArg AV.bool ?_;rw [Bool.eq_iff_iff];simp only [He,Bool.or_eq_true,gA9,gB0];omega
theorem F1 (c:Nat):AC Tryz.prog 100 [.int .u8 c] (.bool (decide (48≤c)&&decide (c≤57))):=by
 refine kE Tryz.func100 pD pE fun E g=> ?_
 refine kW ?_;refine kQ [] ?_;refine kW ?_;refine aR ⟨_,rfl,?_⟩;refine congrArg AV.bool ?_;rw [Bool.eq_iff_iff];simp only [gA9,gB0];omega
end
section
open Go.RowKit
theorem Jj:(List.range 256).all (fun c=>decide (Lib.indexByte [95,45,46,47] (c:Int).toNat.toUInt8<0)== !(decide (c=95)||decide (c=45)||decide (c=46)||decide (c=47)))=true:=kk
theorem N6 {c:Nat} (h:c<256):decide (Lib.indexByte [95,45,46,47] (c:Int).toNat.toUInt8<0)= !(decide (c=95)||decide (c=45)||decide (c=46)||decide (c=47)):=
 eq_of_beq (List.all_eq_true.1 Jj c (List.mem_range.2 h))
theorem Jk {s:ByteArray} (h:s.size=0):s=⟨#[]⟩:=by
 cases s with
 |mk d=>exact congrArg ByteArray.mk (Array.eq_empty_of_size_eq_zero h)
theorem Em (s:ByteArray) (hs:s.size≤140737488355328):AC Tryz.prog 53 [.str s] (.bool (dF s)):=by
 refine kE Tryz.func53 qL qM fun E hE=> ?_
 refine kW ?_;refine aJ (fun k:Nat=>(ar [(0,.str s),(6,.int .i64 s.size),(7,.int .i64 k)],⟨ag [],fun _=>0⟩)) (fun k=>k≤s.size∧ ∀j,(h:j<s.size)→j<k→fb j s[j].toNat=true) (fun k=>s.size-k) 0 ⟨by omega,fun j h I=>by omega⟩ (wO ⟨kI,kI,kI,trivial⟩ trivial rfl rfl) fun k ⟨hk,r⟩=> ?_
 refine kW ?_;refine kC (fun hb=> ?_) fun hb=> ?_
 ·have p:k<s.size:=by simpa using hb
  have J:s[k].toNat<256:=s[k].toNat_lt;refine kW ?_;refine kQ [] ?_;rw [show s.data.getD (k:Int).toNat 0=s[k] from io p];refine kW ?_;refine kP [.v (.bool (He s[k].toNat)),.v (.bool (decide (48≤s[k].toNat)&&decide (s[k].toNat≤57))),.v (.int .i64 (Lib.indexByte [95,45,46,47] ((s[k].toNat:Nat):Int).toNat.toUInt8))] ?_ ?_
  ·((repeat' apply aI)<;>first|exact kD|(intro P;refine ⟨?_,kG⟩;(repeat' apply aI)<;>first|exact kD|skip)|skip)
   all_goals first|exact Ji _|exact F1 _|exact sw ⟨#[95,45,46,47]⟩ _
  rw [N6 J];refine kC (fun hb=> ?_) fun hb=> ?_
  ·have R:fb k s[k].toNat=false:=by
    simp only [Bool.or_eq_true,gA9,Bool.not_eq_true',Bool.or_eq_false_iff,Bool.and_eq_false_iff,gB0,decide_eq_false_iff_not] at hb;simp only [fb,B3,Bool.or_eq_false_iff,Bool.and_eq_false_iff,Bool.not_eq_false',gB0,decide_eq_false_iff_not];refine ⟨hb.1,?_⟩;omega
   refine kW ?_;refine aR ⟨_,rfl,?_⟩;rw [B4 p R];rfl
  ·have ht:fb k s[k].toNat=true:=by
    simp only [Bool.or_eq_true,gA9,Bool.not_eq_false',Bool.or_eq_false_iff,Bool.and_eq_false_iff,gB0,decide_eq_false_iff_not] at hb;simp only [fb,B3,Bool.or_eq_true,gA9,Bool.not_eq_true',gB0,decide_eq_false_iff_not];rcases hb with hb|hb
    ·exact .inl hb
    ·refine .inr ?_
     omega
   refine kW ?_
   exact AK.lp ⟨k+1,⟨by omega,fun j h I=>by
    by_cases e:j=k
    ·subst e;exact ht
    ·exact r j h (by omega)⟩,wO ⟨kI,kI,kU,trivial⟩ trivial rfl rfl,by omega⟩
 ·have p:s.size≤k:=by simpa using hb
  have C:decide (∀k,(h:k<s.size)→fb k s[k].toNat=true)=true:=decide_eq_true fun j h=>r j h (by omega)
  have i: ∀t:ByteArray,fB t=true→s=t→dF s=false:=fun t ht e=>by rw [e,dF,ht];rfl
  refine AK.exit rfl ?_;refine kW ?_;refine kC (fun hb=> ?_) fun hb=> ?_
  ·have e:s=⟨#[]⟩:=gB3 hb
   have g:=hb;refine kW ?_;refine kC (fun hb=> ?_) fun hb=> ?_
   ·refine kW ?_
    refine aR ⟨_,rfl,?_⟩;rw [i _ (by kernel_rfl) e];rfl
   ·rw [g] at hb
    cases hb
  have T:s≠⟨#[]⟩:=gB4 hb;refine kW ?_;refine kC (fun hb=> ?_) fun hb=> ?_
  ·have e:s=⟨#[110,117,108,108]⟩:=gB3 hb
   have g:=hb;refine kW ?_;refine kC (fun hb=> ?_) fun hb=> ?_
   ·refine kW ?_
    refine aR ⟨_,rfl,?_⟩;rw [i _ (by kernel_rfl) e];rfl
   ·rw [g] at hb
    cases hb
  have U:s≠⟨#[110,117,108,108]⟩:=gB4 hb;refine kW ?_;refine kC (fun hb=> ?_) fun hb=> ?_
  ·have e:s=⟨#[116,114,117,101]⟩:=gB3 hb
   have g:=hb;refine kW ?_;refine kC (fun hb=> ?_) fun hb=> ?_
   ·refine kW ?_
    refine aR ⟨_,rfl,?_⟩;rw [i _ (by kernel_rfl) e];rfl
   ·rw [g] at hb
    cases hb
  have n2:s≠⟨#[116,114,117,101]⟩:=gB4 hb;refine kW ?_;refine kC (fun hb=> ?_) fun hb=> ?_
  ·have e:s=⟨#[102,97,108,115,101]⟩:=gB3 hb
   refine kW ?_;refine aR ⟨_,rfl,?_⟩;rw [i _ (by kernel_rfl) e];rfl
  have n3:s≠⟨#[102,97,108,115,101]⟩:=gB4 hb;refine kW ?_;refine aR ⟨_,rfl,?_⟩;have hz:s.size≠0:=fun h=>T (Jk h)
  have hw:fB s=false:=by
   unfold fB;rw [decide_eq_false hz,decide_eq_false U,decide_eq_false n2,decide_eq_false n3];rfl
  have:dF s=true:=by
   rw [dF,hw,C];rfl
  rw [this];rfl
end
end Go.Proofs.YtbgflifmanjpjaaGreatDoor
