/- Part 27. -/
import Derived.Test.YtbgflifmanjpjaaGreatDoorS26
import Derived.Test.YtbgflifmanjpjaaGreatDoorRows
set_option linter.unusedSimpArgs false
set_option linter.unusedVariables false
namespace Go.Proofs.YtbgflifmanjpjaaGreatDoor
section
open Go.ChangeShapes Go.WideShapes Go.ChangeAt Go.RowKit Go.Deep
theorem own:ownKnob Tryz.prog.godebug=none:=kk
theorem Jt:laidOutB Tryz.prog=true:=kk
theorem KY:Tryz.prog.cellsOf 9=1:=kk
theorem Ex:reachBytes≤140737488355328:=by decide
theorem Ds {H:Type} {s:ByteArray} (h:WtOk (H:=H) Tryz.prog 9 (.lit (.string s.data.toList))):s.size≤140737488355328:=by
 have:=h s.data.toList.length (by simp [DataW.weights]);have g:=Ex;have e:s.data.toList.length=s.size:=by simp
 omega
theorem Ju {H:Type} {enc:TypeId×Value→H} {W:World} {base:Nat} {spare:Nat→Bool} {held:Bool} {v:Value} {d:DataW H} {p:List MemPlace} (g: ∃s,v= .string s) (h:DataW.Trod enc Tryz.prog W base spare held 9 v d p) (i:WtOk Tryz.prog 9 d):
  ∃s:ByteArray,v= .string s∧s.size≤140737488355328∧d= .lit (.string s.data.toList):=by
 obtain ⟨s,rfl⟩:=g;obtain ⟨fuel,j⟩:=h;obtain ⟨s',e,r,_⟩:=DataW.trod_string Tryz.underlying9 j;injection e with e
 injection e with e
 subst e;injection r with C _
 subst C;exact ⟨s,rfl,Ds i,rfl⟩
theorem HL {H:Type} {ts:List TypeId} {ds:List (DataW H)} (h:(DataW.weightsEach Tryz.prog ts ds).all (· ≤reachBytes)=true) {j:Nat} {t:TypeId} {d:DataW H} (ht:ts[j]? =some t) (g:ds[j]? =some d):WtOk Tryz.prog t d:=fun q i=>by
 have:=List.all_eq_true.1 h q (DataW.weights_mem_each ht g q i);simpa using this
theorem RelPs.two {σ:Sg} {a b:Value} {x y:AV} (p:RelP σ a x) (r:RelP σ b y):RelPs σ [a,b] [x,y]:=by
 refine ⟨rfl,fun j v w g i=> ?_⟩;rcases j with _|_|j<;>simp at g i
 ·subst g i;exact p
 ·subst g i;exact r
def Bm (h:Array Obj) (g:Nat) (l:List Value):Array Obj:=h.modify g fun
 | .cells _ t frozen=> .cells l.toArray t frozen
 |o=>o
end
section
open Go.RowKit
abbrev Fl:=ByteArray×ByteArray
def aq (l:List Fl):List (List AV):=l.map fun p=> [.str p.1,.str p.2]
theorem ak (l:List Fl):(aq l).length=l.length:=List.length_map _
theorem bY {l:List Fl} {k:Nat} {p:Fl} (h:l[k]? =some p):(aq l)[k]? =some [.str p.1,.str p.2]:=by simp [aq,h]
theorem vf (l:List Fl) (p:Fl):aq (l++ [p])=aq l++ [[.str p.1,.str p.2]]:=by simp [aq]
end
section
open Go.ChangeShapes Go.WideShapes Go.ChangeAt Go.RowKit Go.Deep
theorem HM:Tryz.prog.cellsOf 52=2:=kk
theorem KZ:Tryz.prog.bytesOf 52=32:=kk
theorem HN {α:Type} {size:Nat} {R:List Value→α→Prop} {w:World} {B:Nat} {v:Value} {l:List α} (h:Sl size R w B v l) {x:α} (j:x∈l): ∃cs,R cs x:=by
 obtain ⟨A,cap,_,_,g⟩:=h;obtain ⟨i,hi⟩:=List.getElem?_of_mem j;obtain ⟨_,_,_,_,cs,_,p,_⟩:=g i x hi;exact ⟨cs,p⟩
theorem vg {H:Type} {enc:TypeId×Value→H} {w:World} {base:Nat} {spare:Nat→Bool} {held:Bool} {v:Value} {d:DataW H} {p:List MemPlace} (hv: ∃a n c,v= .slice a n c) (h:DataW.Trod enc Tryz.prog w base spare held 22 v d p) (i:WtOk Tryz.prog 22 d):
  ∃l:List Fl,Rel1 (σW w) v (.lst .any 2 (aq l))∧l.length≤4398046511103∧ ∀p∈l,p.1.size≤140737488355328∧p.2.size≤140737488355328:=by
 obtain ⟨a,n,c,rfl⟩:=hv;obtain ⟨fuel,r⟩:=h
 obtain ⟨l,hl,hb⟩:=Bl (R:=fun cs (p:Fl)=>cs= [.string p.1,.string p.2]∧p.1.size≤140737488355328∧p.2.size≤140737488355328) (x:=(d,p)) Tryz.underlying22 HM (by decide) (v:= .slice a n c) (fuel:=fuel) (by simpa [Value.cells] using r) i (fun n cs y _ h i=>by
  obtain ⟨xs,m,hm,hy,hl,g,r⟩:=DataW.trod_struct Tryz.underlying52 h;rw [HM] at hl
  obtain ⟨c0,U,rfl⟩: ∃a b,cs= [a,b]:=by
   rcases cs with _|⟨a,_|⟨b,_|⟨c,l⟩⟩⟩<;>simp at hl
   exact ⟨a,b,rfl⟩
  obtain ⟨x0,x1,rfl⟩: ∃a b,xs= [a,b]:=by
   have g:xs.length=2:=g;rcases xs with _|⟨a,_|⟨b,_|⟨c,l⟩⟩⟩<;>simp at g
   exact ⟨a,b,rfl⟩
  rw [hy] at i;have f0:DataW.trod enc Tryz.prog w base spare held m 9 (List.take (Tryz.prog.cellsOf 9) (List.drop 0 [c0,U]))=some x0:=r 0 _ rfl;have f1:DataW.trod enc Tryz.prog w base spare held m 9 (List.take (Tryz.prog.cellsOf 9) (List.drop 1 [c0,U]))=some x1:=r 1 _ rfl;have w0:WtOk Tryz.prog 9 x0.1:=WtOk.part Tryz.underlying52 i (j:=0) rfl rfl;have w1:WtOk Tryz.prog 9 x1.1:=WtOk.part Tryz.underlying52 i (j:=1) rfl rfl;simp only [KY,List.drop_succ_cons,List.drop_zero,List.take_succ_cons,List.take_zero] at f0 f1;obtain ⟨s0,C,I,_⟩:=DataW.trod_string Tryz.underlying9 f0;obtain ⟨s1,J,P,_⟩:=DataW.trod_string Tryz.underlying9 f1;injection C with C;injection J with J
  subst C J;rw [I] at w0;rw [P] at w1;exact ⟨(s0,s1),rfl,Ds w0,Ds w1⟩)
 refine ⟨l,FN hl (fun p=> [.str p.1,.str p.2]) (fun cs p T=>by obtain ⟨rfl,_⟩:=T;exact .cons (.str _) (.cons (.str _) .nil)),?_,fun p hp=> ?_⟩
 ·rw [KZ] at hb
  have:=Ex;have h3:reachBytes=140737488351232:=rfl;omega
 ·obtain ⟨cs,_,h⟩:=HN hl hp
  exact h
end
section
abbrev gi_acceptRanges:Nat:=3
abbrev gi_first:Nat:=2
end
section
open Go.ChangeShapes Go.WideShapes Go.ChangeAt Go.RowKit Go.Deep
def Ly:DataW Unit→List Value
 | .agg l=>l.map fun
  | .lit (.int k z)=> .int k z
  |_=>undef
 |_=> []
def Lz:DataW Unit→List Value
 | .agg l=>l.flatMap Ly
 |_=> []
noncomputable def FO (os:Os):Array Obj:=Bm (Bm (Bm (Bm (World.holding Tryz.prog os ⟨#[], #[],[]⟩).heap gi_deBruijn32tab gv_deBruijn32tab) gi_deBruijn64tab gv_deBruijn64tab) gi_uint64pow10 gv_uint64pow10) gi_names gv_names
noncomputable def vh (os:Os):Array Obj:=Bm (Bm (FO os) gi_first (Ly Rows.laid_unicode_utf8_first)) gi_acceptRanges (Lz Rows.laid_unicode_utf8_acceptRanges)
noncomputable def qB (os:Os):World:=
 { World.holding Tryz.prog os ⟨#[], #[],[]⟩ with heap:=Bm (Bm (vh os) gi_ErrRange [.iface 326 (.pointer (some ⟨(vh os).size,0,none⟩))]) gi_ErrSyntax [.iface 326 (.pointer (some ⟨(vh os).size+1,0,none⟩))]
    ++ #[.cells #[.string ⟨#[118,97,108,117,101,32,111,117,116,32,111,102,32,114,97,110,103,101]⟩] 328 (0,0),.cells #[.string ⟨#[105,110,118,97,108,105,100,32,115,121,110,116,97,120]⟩] 328 (0,0)]}
end
section
open Go.RowKit
def ly (w:ByteArray):Bool:= !(decide (w=⟨#[]⟩)||decide (w=⟨#[46]⟩)||decide (w=⟨#[46,46]⟩)|| !cK (eF w ⟨#[95]⟩))
def cA (s:ByteArray):Bool:=(bX 47 s).all ly&&decide (s.size≤256)
def iN (p:ByteArray×ByteArray):List (ByteArray×ByteArray)→List (ByteArray×ByteArray)
 | []=> [p]
 |q::l=>if Op.bytesLess q.1.toList p.1.toList=true then q::iN p l else p::q::l
def cS (l:List (ByteArray×ByteArray)):List (ByteArray×ByteArray):=l.foldl (fun out p=>iN p out) []
theorem Ey {p:ByteArray×ByteArray}: ∀(l:List (ByteArray×ByteArray)) (k:Nat),(∀(j:Nat) q,j<k→l[j]? =some q→Op.bytesLess q.1.toList p.1.toList=true)→
  (∀q,l[k]? =some q→Op.bytesLess q.1.toList p.1.toList=false)→iN p l=l.take k++p::l.drop k
 | [],k,_,_=>by simp [iN]
 |q::l,0,_,h=>by
  have:=h q rfl;rw [iN,if_neg (by rw [this];simp)];rfl
 |q::l,k+1,i,r=>by
  have:=i 0 q (by omega) rfl;rw [iN,if_pos this,Ey l k (fun j x C g=>i (j+1) x (by omega) g) (fun x g=>r x g)];rfl
theorem Dt (l:List (ByteArray×ByteArray)) (p:ByteArray×ByteArray):cS (l++ [p])=iN p (cS l):=by rw [cS,List.foldl_append];rfl
theorem Bn (p:ByteArray×ByteArray): ∀l,(iN p l).length=l.length+1
 | []=>rfl
 |q::l=>by rw [iN];split<;>simp [Bn p l]
theorem qC (l:List (ByteArray×ByteArray)):(cS l).length=l.length:=by
 have key: ∀(l out:List (ByteArray×ByteArray)),(l.foldl (fun out p=>iN p out) out).length=out.length+l.length:=by
  intro l
  induction l with
  |nil=>intro out;rfl
  |cons p l ih=>intro out;rw [List.foldl_cons,ih,Bn,gA3];omega
 rw [cS,key];simp
theorem md (p:ByteArray×ByteArray): ∀l,(iN p l).Perm (p::l)
 | []=> .refl _
 |q::l=>by
  rw [iN];split
  ·exact ((md p l).cons q).trans (.swap p q l)
  ·exact .refl _
theorem gp (l:List (ByteArray×ByteArray)):(cS l).Perm l:=by
 have key: ∀(l out:List (ByteArray×ByteArray)),(l.foldl (fun out p=>iN p out) out).Perm (out++l):=by
  intro l
  induction l with
  |nil=>intro out;simp
  |cons p l ih=>
   intro out;rw [List.foldl_cons];refine (ih (iN p out)).trans (((md p out).append_right l).trans ?_);exact (List.perm_middle (l₁:=out) (a:=p) (l₂:=l)).symm
 exact key l []
theorem vi {p:ByteArray×ByteArray}: ∀{l:List (ByteArray×ByteArray)},l.Pairwise (fun x y=>klt x.1 y.1)→(∀q∈l,q.1≠p.1)→(iN p l).Pairwise fun x y=>klt x.1 y.1
 | [],_,_=>List.pairwise_singleton _ _
 |q::l,h,hn=>by
  obtain ⟨r,C⟩:=List.pairwise_cons.1 h;rw [iN];split
  ·rename_i j
   refine List.pairwise_cons.2 ⟨fun x g=> ?_,vi C fun x g=>hn x (by simp [g])⟩;rcases gB2 ((md p l).mem_iff.1 g) with rfl|g
   ·exact j
   ·exact r x g
  ·rename_i j
   have i:klt p.1 q.1:=by
    refine qf (by simpa using j) ?_;rw [beq_eq_false_iff_ne];intro e;refine hn q (by simp) ?_;rw [ByteArray.toList_eq,ByteArray.toList_eq] at e;exact ByteArray.ext (Array.toList_inj.1 e)
   refine List.pairwise_cons.2 ⟨fun x g=> ?_,h⟩;rcases gB2 g with rfl|g
   ·exact i
   ·exact iG i (r x g)
theorem Bo (l:List (ByteArray×ByteArray)) (hn:(l.map (·.1)).Nodup):(cS l).Pairwise fun x y=>klt x.1 y.1:=by
 have key: ∀(l out:List (ByteArray×ByteArray)),out.Pairwise (fun x y=>klt x.1 y.1)→((out++l).map (·.1)).Nodup→(l.foldl (fun out p=>iN p out) out).Pairwise fun x y=>klt x.1 y.1:=by
  intro l
  induction l with
  |nil=>intro out h _;exact h
  |cons p l ih=>
   intro out h g;rw [List.foldl_cons];refine ih _ (vi h fun q i e=> ?_) ?_
   ·rw [List.map_append,List.nodup_append] at g
    exact g.2.2 q.1 (List.mem_map.2 ⟨q,i,rfl⟩) p.1 (by simp) e
   ·have j:(iN p out++l).Perm (out++p::l):=((md p out).append_right l).trans (List.perm_middle (l₁:=out) (a:=p) (l₂:=l)).symm
    exact (j.map (·.1)).nodup_iff.2 g
 exact key l [] .nil hn
def cT (pre:List Fl) (f:Fl):Int:=if cA f.1=false then 22 else if 65536<f.2.size then 6 else if (pre.any fun g=>decide (g.1=f.1))=true then 13 else 0
def cU:List Fl→List Fl→ByteArray×Int
 |_,[]=>(⟨#[]⟩,0)
 |pre,f::r=>if cT pre f≠0 then (f.1,cT pre f) else cU (pre++ [f]) r
def aw (l:List Fl):List Fl×ByteArray×Int:=if 32<l.length then ([],⟨#[]⟩,6) else if (cU [] l).2≠0 then ([],(cU [] l).1,(cU [] l).2) else (cS l,⟨#[]⟩,0)
theorem xI {l:List Fl} {k:Nat} {f:Fl} (h:l[k]? =some f):cU (l.take k) (l.drop k)=if cT (l.take k) f≠0 then (f.1,cT (l.take k) f) else cU (l.take (k+1)) (l.drop (k+1)):=by
 obtain ⟨g,i⟩:=gA0 h;rw [List.drop_eq_getElem_cons g,i,cU,List.take_add_one,h];rfl
theorem rI: ∀(r pre:List Fl),(pre.map (·.1)).Nodup→(cU pre r).2=0→((pre++r).map (·.1)).Nodup∧ ∀f∈r,cA f.1=true∧f.2.size≤65536
 | [],pre,h,_=>⟨by simpa using h,fun f i=>by cases i⟩
 |f::r,pre,h,j=>by
  rw [cU] at j;by_cases i:cT pre f≠0
  ·rw [if_pos i] at j
   exact absurd j i
  rw [if_neg i] at j;have i:cT pre f=0:=by omega
  unfold cT at i;split at i
  ·cases i
  rename_i C;split at i
  ·cases i
  rename_i T;split at i
  ·cases i
  rename_i I
  have p:((pre++ [f]).map (·.1)).Nodup:=by
   rw [List.map_append,List.nodup_append];refine ⟨h,by simp,fun a J b hb e=> ?_⟩;rw [List.map_cons,List.map_nil,List.mem_singleton] at hb;obtain ⟨g,hg,rfl⟩:=List.mem_map.1 J;exact I (List.any_eq_true.2 ⟨g,hg,by rw [e,hb];simp⟩)
  obtain ⟨P,R⟩:=rI r (pre++ [f]) p j;refine ⟨by simpa using P,fun g hg=> ?_⟩;rcases gB2 hg with rfl|hg
  ·exact ⟨by simpa using C,by omega⟩
  ·exact R g hg
theorem me {l:List Fl} (h:(aw l).2.2=0):l.length≤32∧(l.map (·.1)).Nodup∧(∀f∈l,cA f.1=true∧f.2.size≤65536)∧(aw l).1=cS l∧(cU [] l).2=0:=by
 unfold aw at h⊢;split at h
 ·cases h
 rename_i i;split at h
 ·rename_i g
  exact absurd h g
 rename_i g;rw [if_neg i,if_neg g];obtain ⟨j,p⟩:=rI l [] (by simp) (by omega);exact ⟨by omega,by simpa using j,p,rfl,by omega⟩
end
section
set_option maxRecDepth 100000
set_option maxHeartbeats 20000000
def eV:List Nat:= [2000040,2000041,2000043,2000010,2000026,2000083,2000011]
noncomputable def y7:ACode:=bK Tryz.prog eV Tryz.f17
noncomputable def y8:AFn:=⟨1,32,y7,[.tmp 2]⟩
theorem sD:ar Tryz.prog eV Tryz.f17=some y8:=kk
theorem sE:ab Tryz.prog 17=true:=kk
noncomputable def wu:ACode:=bK Tryz.prog eV Tryz.f39
noncomputable def wv:AFn:=⟨1,45,wu,[.tmp 2,.tmp 3,.tmp 4]⟩
theorem qD:ar Tryz.prog eV Tryz.f39=some wv:=kk
theorem qE:ab Tryz.prog 39=true:=kk
noncomputable def sF:ACode:=bK Tryz.prog eV Tryz.f81
noncomputable def sG:AFn:=⟨1,9,sF,[.tmp 3]⟩
theorem nZ:ar Tryz.prog eV Tryz.f81=some sG:=kk
theorem n7:ab Tryz.prog 81=true:=kk
noncomputable def gq:ACode:=bK Tryz.prog eV Tryz.f80
noncomputable def gu:AFn:=⟨2,9,gq,[.tmp 4]⟩
theorem fg:ar Tryz.prog eV Tryz.f80=some gu:=kk
theorem fh:ab Tryz.prog 80=true:=kk
noncomputable def iO:ACode:=bK Tryz.prog eV Tryz.f134
noncomputable def iP:AFn:=⟨2,19,iO,[.tmp 4]⟩
theorem gv:ar Tryz.prog eV Tryz.f134=some iP:=kk
theorem gy:ab Tryz.prog 134=true:=kk
theorem ek:ab Tryz.prog 82=true:=kk
end
section
open Go.RowKit
def y9:Value:= .agg #[.string ⟨#[]⟩,.string ⟨#[]⟩]
theorem xJ:(Tryz.prog.info? 52).map (fun i=>(i.zero,i.size,i.bytes))=some (some y9,2,32):=kk
set_option maxRecDepth 100000 in
theorem Du (rows:List (List AV)) (P:0<rows.length) (hb:rows.length*32≤140737488355328):MF Tryz.prog 82 [.lst .any 2 rows] 2 rows:=by
 refine ⟨ek,fun σ w vs J hr hg=> ?_⟩;obtain ⟨v,rfl⟩:=List.length_eq_one_iff.1 hr.1;have h1:Rel1 σ v (.lst .any 2 rows):=hr.2 0 v _ rfl rfl;obtain ⟨A,cap,b,o,news,rfl,hcap,hA,hsz,g,hrel,i⟩:=cC h1;have:=hA P;subst this;obtain ⟨i0,R,T,U,hzb⟩:=info_parts xJ
 obtain ⟨r,hz1,hz2,C⟩: ∃r:List Value,(∀u∈r,u.oneCell' =true)∧rows.length*2+r.length=grownCap (w.alloc (.cells #[] 52)) (0+rows.length) 0 52*2∧
   ∀ty,(Builtin.append_ #[22,22] ty #[.slice (some ⟨w.heap.size,0,none⟩) 0 0,.slice (some ⟨b,o,none⟩) rows.length cap]).run Tryz.prog (w.alloc (.cells #[] 52))=
    .ok (.slice (some ⟨w.heap.size+1,0,none⟩) rows.length (grownCap (w.alloc (.cells #[] 52)) (0+rows.length) 0 52)) ((w.alloc (.cells #[] 52)).drew.alloc (.cells (news++r).toArray 52)):=by
  have hge:=grownCap_ge (w.alloc (.cells #[] 52)) (0+rows.length) 0 52;refine ⟨(Builtin.zeroCells y9.cells (grownCap (w.alloc (.cells #[] 52)) (0+rows.length) 0 52-(0+rows.length))).toList,fP (by simp [y9,Value.cells,Value.oneCell']) _,?_,fun ty=> ?_⟩
  ·have:(y9.cells).size=2:=rfl
   simp only [Array.length_toList,size_zeroCells,this];rw [←gC3];congr 1;omega
  ·have:=run_append_grow (w.alloc (.cells #[] 52)) 22 ty 52 i0 _ Tryz.underlying22 R T ⟨w.heap.size,0,none⟩ 0 0 [] (by simp) (fun j v h=>by simp at h) ⟨b,o,none⟩ rows.length cap news (by rw [U];exact g)
    (fun j v hj=>by
     rw [Addr.add_lit];have h2:=J _ _ _ (i j v hj);rw [World.cell?_alloc_lt w _ _ (World.block_lt_of_cell? w _ h2)];exact h2) (by omega) (by omega) (by rw [hzb];exact growslice_fits (by omega) (by omega))
   rw [this];simp;congr 2;apply Array.ext';simp
 have q24: ∀(w:World) (a:Option Addr) (n c:Nat),(binOp .eql 22 (.slice a n c) (.slice none 0 0)).run Tryz.prog w= .ok (.bool a.isNone) w:=fun w a n c=>by simp [binOp,run_equal_slice_nil w _ _ a n c Tryz.underlying22]
 go_enter Tryz.func82,Tryz.ntmps82
 go_wp2_with (at_builtin;refine Lib.wpList_append_run _ rfl _ _ _ _ rfl _ _ rfl rfl _ _ (C _) ?_)
 go_wp2
 go_ret
 have hge:=grownCap_ge (w.alloc (.cells #[] 52)) (0+rows.length) 0 52;have I:Below w.heap.size w ((w.alloc (.cells #[] 52)).drew.alloc (.cells (news++r).toArray 52)):=(((Below.refl _ _).alloc (gA4 _) _).drew).alloc (by simp) _
 exact ⟨σ,w.heap.size+1,_,rfl,Ext.refl _ _,fun b q v hv=>(I.cell (p:=⟨b,q,none⟩) (World.block_lt_of_cell? w _ (J _ _ _ hv))).trans (J _ _ _ hv),I,by omega,
  by
   have:=FRowW.new (w1:=(w.alloc (.cells #[] 52)).drew) J (by simp) (e:=52) hrel hsz g hz1 (by rw [g];exact hz2) (by omega);have e:(w.alloc (.cells #[] 52)).drew.heap.size=w.heap.size+1:=by simp
   rw [e,Nat.zero_add] at this;exact this⟩
set_option maxRecDepth 100000 in
theorem Bp:AC Tryz.prog 82 [.lst .any 2 []] (.lst .any 2 []):=by
 refine ⟨ek,fun σ w vs C hr hg=> ?_⟩;obtain ⟨v,rfl⟩:=List.length_eq_one_iff.1 hr.1;have R:Rel1 σ v (.lst .any 2 []):=hr.2 0 v _ rfl rfl;obtain ⟨A,cap,b,o,news,rfl,_⟩:=cC R;have T: ∀(w:World) (a:Option Addr) (n c:Nat),(binOp .eql 22 (.slice a n c) (.slice none 0 0)).run Tryz.prog w= .ok (.bool a.isNone) w:=fun w a n c=>by simp [binOp,run_equal_slice_nil w _ _ a n c Tryz.underlying22]
 obtain ⟨i0,I,_⟩:=info_parts xJ;have hrel: ∀(A:Option Addr) (cap:Nat),RelR σ (.slice A 0 cap) (.lst .any 2 []):=fun A cap=> .lst .any 2 [] A 0 cap 0 0 (fun _ _=>undef) rfl (by omega) (fun h=>by omega) (fun i c h=>by simp at h) (fun i j h=>by omega) (fun i j c a h=>by simp at h) trivial
 cases A with
 |none=>
  go_enter Tryz.func82,Tryz.ntmps82
  go_wp2
  go_ret
  exact ⟨σ,_,rfl,Ext.refl _ _,C,Below.refl _ _,hrel none 0⟩
 |some a=>
  have g:=fun ty=>cx (P:=Tryz.prog) (w.alloc (.cells #[] 52)) 22 ty 52 Tryz.underlying22 I (some ⟨w.heap.size,0,none⟩) (some a) 0 0 cap (by omega)
  go_enter Tryz.func82,Tryz.ntmps82
  go_wp2_with (at_builtin;refine Lib.wpList_append_run _ rfl _ _ _ _ rfl _ _ rfl rfl _ _ (g _) ?_)
  go_wp2
  go_ret
  have r:Below w.heap.size w (w.alloc (.cells #[] 52)):=(Below.refl _ _).alloc (gA4 _) _;exact ⟨σ,_,rfl,Ext.refl _ _,fun b q v J=>(r.cell (p:=⟨b,q,none⟩) (World.block_lt_of_cell? w _ (C _ _ _ J))).trans (C _ _ _ J),r,hrel _ _⟩
theorem HO (s:ByteArray) (R:s.size≤1000000):AC Tryz.prog 17 [.str s] (.bool (cA s)):=by
 have h:=AW 47 s R;have hl:=yT 47 s;refine kE Tryz.func17 sD sE fun E T=> ?_
 refine kW ?_;refine kQ [.v (.lst .any 1 (bJ (bX 47 s)))] ?_;refine kW ?_;refine aJ (fun k:Nat=>(ax [(0,.str s),(6,.lst .any 1 (bJ (bX 47 s))),(7,.int .i64 (bJ (bX 47 s)).length),(8,.int .i64 k)],⟨ah [],fun _=>0⟩)) (fun k=>k≤(bX 47 s).length∧ ∀(j:Nat) w,j<k→(bX 47 s)[j]? =some w→ly w=true) (fun k=>(bX 47 s).length-k) 0 ⟨gB8 _,fun j w h=>by omega⟩ (wO ⟨kI,kI,kI,kI,trivial⟩ trivial rfl rfl) fun k ⟨U,i⟩=> ?_
 refine kW ?_;refine kC (fun hb=> ?_) fun hb=> ?_
 ·have g:k<(bX 47 s).length:=by simpa [dh] using hb
  obtain ⟨x,hg⟩: ∃x,(bX 47 s)[k]? =some x:=⟨_,gA1 g⟩
  have J:=AX (gA2 hg);have hc:=xA x ⟨#[95]⟩;refine kW ?_;refine kP [.c [.str x]] ?_ ?_
  ·((repeat' apply aI)<;>first|exact kD|(intro p;refine ⟨?_,kG⟩;(repeat' apply aI)<;>first|exact kD|skip)|skip)
   ·exact AU hg
  refine kW ?_;refine kP [.v (.str (eF x ⟨#[95]⟩)),.v (.bool (cK (eF x ⟨#[95]⟩)))] ?_ ?_
  ·((repeat' apply aI)<;>first|exact kD|(intro p;refine ⟨?_,kG⟩;(repeat' apply aI)<;>first|exact kD|skip)|skip)
   all_goals first|exact Hl _ _|exact Hj _ (by omega)|skip
  refine kC (fun hb=> ?_) fun hb=> ?_
  ·refine kW ?_
   refine aR ⟨_,rfl,?_⟩;have r:ly x=false:=by rw [ly,hb];rfl
   have C:(bX 47 s).all ly=false:=List.all_eq_false.2 ⟨x,gA2 hg,by rw [r];simp⟩;rw [cA,C];rfl
  ·have r:ly x=true:=by rw [ly,hb];rfl
   refine kW ?_
   exact AK.lp ⟨k+1,⟨by omega,fun j w h I=>by
    by_cases e:j=k
    ·subst e;rw [hg] at I;cases I;exact r
    ·exact i j w (by omega) I⟩,wO ⟨kI,kI,kI,kU,trivial⟩ trivial rfl rfl,by omega⟩
 ·have g:k=(bX 47 s).length:=by have:(bX 47 s).length≤k:=by simpa [dh] using hb
                                omega
  subst g;refine AK.exit rfl ?_;refine kW ?_;refine aR ⟨_,rfl,?_⟩
  have C:(bX 47 s).all ly=true:=List.all_eq_true.2 fun x J=>by
   obtain ⟨j,P⟩:=List.getElem?_of_mem J;exact i j x (gA0 P).1 P
  rw [cA,C];exact congrArg AV.bool (by rw [Bool.true_and,Bool.eq_iff_iff,gB0,gB0];omega)
end
end Go.Proofs.YtbgflifmanjpjaaGreatDoor
