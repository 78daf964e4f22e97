/- Part 27. -/
import Derived.Test.YtbgflifmanjpjaaGreatDoorS26
import Derived.Test.YtbgflifmanjpjaaGreatDoorRows
set_option linter.unusedSimpArgs false
set_option linter.unusedVariables false
namespace Go.Proofs.YtbgflifmanjpjaaGreatDoor
section
open Go.ChangeShapes Go.WideShapes Go.ChangeAt Go.RowKit Go.Deep
def mU2:List Nat:= [2000040,2000041,2000043,2000010,2000026,2000083,2000011]
theorem own:ownKnob Tryz.prog.godebug=none:=kk
theorem Jn:laidOutB Tryz.prog=true:=kk
theorem Dz:Tryz.prog.cellsOf 9=1:=kk
theorem zF:reachBytes≤140737488355328:=by decide
theorem vh {H:Type} {s:ByteArray} (h:WtOk (H:=H) Tryz.prog 9 (.lit (.string s.data.toList))):s.size≤140737488355328:=by
 have:=h s.data.toList.length (by simp [DataW.weights]);have g:=zF;have e:s.data.toList.length=s.size:=by simp
 omega
theorem Jo {H:Type} {enc:TypeId×Value→H} {W:World} {base:Nat} {spare:Nat→Bool} {held:Bool} {v:Value} {d:DataW H} {p:List MemPlace} (g: ∃s,v= .string s) (h:DataW.Trod enc Tryz.prog W base spare held 9 v d p) (i:WtOk Tryz.prog 9 d):
  ∃s:ByteArray,v= .string s∧s.size≤140737488355328∧d= .lit (.string s.data.toList):=by
 obtain ⟨s,rfl⟩:=g;obtain ⟨fuel,j⟩:=h;obtain ⟨s',e,r,_⟩:=DataW.trod_string Tryz.underlying9 j;injection e with e
 injection e with e
 subst e;injection r with hd _
 subst hd;exact ⟨s,rfl,vh i,rfl⟩
theorem DA {H:Type} {ts:List TypeId} {ds:List (DataW H)} (h:(DataW.weightsEach Tryz.prog ts ds).all (· ≤reachBytes)=true) {j:Nat} {t:TypeId} {d:DataW H} (ht:ts[j]? =some t) (hd:ds[j]? =some d):WtOk Tryz.prog t d:=fun q g=>by
 have:=List.all_eq_true.1 h q (DataW.weights_mem_each ht hd q g);simpa using this
theorem RelPs.three {σ:Sg} {a b c:Value} {x y z:AV} (p:RelP σ a x) (r:RelP σ b y) (C:RelP σ c z):RelPs σ [a,b,c] [x,y,z]:=by
 refine ⟨rfl,fun j v w g i=> ?_⟩;rcases j with _|_|_|j<;>simp at g i
 ·subst g i;exact p
 ·subst g i;exact r
 ·subst g i;exact C
def DB (h:Array Obj) (g:Nat) (l:List Value):Array Obj:=h.modify g fun
 | .cells _ t frozen=> .cells l.toArray t frozen
 |o=>o
end
section
open Go.RowKit
abbrev Fl:=ByteArray×ByteArray
def aH (l:List Fl):List (List AV):=l.map fun p=> [.str p.1,.str p.2]
theorem aP (l:List Fl):(aH l).length=l.length:=List.length_map _
theorem jk {l:List Fl} {k:Nat} {p:Fl} (h:l[k]? =some p):(aH l)[k]? =some [.str p.1,.str p.2]:=by simp [aH,h]
theorem DC (l:List Fl) (p:Fl):aH (l++ [p])=aH l++ [[.str p.1,.str p.2]]:=by simp [aH]
end
section
open Go.ChangeShapes Go.WideShapes Go.ChangeAt Go.RowKit Go.Deep
theorem Hv:Tryz.prog.cellsOf 52=2:=kk
theorem K2:Tryz.prog.bytesOf 52=32:=kk
theorem Hw {α:Type} {size:Nat} {R:List Value→α→Prop} {w:World} {B:Nat} {v:Value} {l:List α} (h:Sl size R w B v l) {x:α} (j:x∈l): ∃cs,R cs x:=by
 obtain ⟨A,cap,_,_,g⟩:=h;obtain ⟨i,hi⟩:=List.getElem?_of_mem j;obtain ⟨_,_,_,_,cs,_,p,_⟩:=g i x hi;exact ⟨cs,p⟩
theorem vi {H:Type} {enc:TypeId×Value→H} {w:World} {base:Nat} {spare:Nat→Bool} {held:Bool} {v:Value} {d:DataW H} {p:List MemPlace} (hv: ∃a n c,v= .slice a n c) (h:DataW.Trod enc Tryz.prog w base spare held 22 v d p) (i:WtOk Tryz.prog 22 d):
  ∃l:List Fl,Rel1 (σW w) v (.lst .any 2 (aH l))∧l.length≤4398046511103∧ ∀p∈l,p.1.size≤140737488355328∧p.2.size≤140737488355328:=by
 obtain ⟨a,n,c,rfl⟩:=hv;obtain ⟨fuel,r⟩:=h
 obtain ⟨l,hl,hb⟩:=lV (R:=fun cs (p:Fl)=>cs= [.string p.1,.string p.2]∧p.1.size≤140737488355328∧p.2.size≤140737488355328) (x:=(d,p)) Tryz.underlying22 Hv (by decide) (v:= .slice a n c) (fuel:=fuel) (by simpa [Value.cells] using r) i (fun n cs y _ h i=>by
  obtain ⟨xs,m,hm,hy,hl,g,r⟩:=DataW.trod_struct Tryz.underlying52 h;rw [Hv] at hl
  obtain ⟨c0,U,rfl⟩: ∃a b,cs= [a,b]:=by
   rcases cs with _|⟨a,_|⟨b,_|⟨c,l⟩⟩⟩<;>simp at hl
   exact ⟨a,b,rfl⟩
  obtain ⟨x0,x1,rfl⟩: ∃a b,xs= [a,b]:=by
   have g:xs.length=2:=g;rcases xs with _|⟨a,_|⟨b,_|⟨c,l⟩⟩⟩<;>simp at g
   exact ⟨a,b,rfl⟩
  rw [hy] at i;have f0:DataW.trod enc Tryz.prog w base spare held m 9 (List.take (Tryz.prog.cellsOf 9) (List.drop 0 [c0,U]))=some x0:=r 0 _ rfl;have f1:DataW.trod enc Tryz.prog w base spare held m 9 (List.take (Tryz.prog.cellsOf 9) (List.drop 1 [c0,U]))=some x1:=r 1 _ rfl;have w0:WtOk Tryz.prog 9 x0.1:=WtOk.part Tryz.underlying52 i (j:=0) rfl rfl;have w1:WtOk Tryz.prog 9 x1.1:=WtOk.part Tryz.underlying52 i (j:=1) rfl rfl;simp only [Dz,List.drop_succ_cons,List.drop_zero,List.take_succ_cons,List.take_zero] at f0 f1;obtain ⟨s0,C,I,_⟩:=DataW.trod_string Tryz.underlying9 f0;obtain ⟨s1,J,P,_⟩:=DataW.trod_string Tryz.underlying9 f1;injection C with C;injection J with J
  subst C J;rw [I] at w0;rw [P] at w1;exact ⟨(s0,s1),rfl,vh w0,vh w1⟩)
 refine ⟨l,qD hl (fun p=> [.str p.1,.str p.2]) (fun cs p T=>by obtain ⟨rfl,_⟩:=T;exact .cons (.str _) (.cons (.str _) .nil)),?_,fun p hp=> ?_⟩
 ·rw [K2] at hb
  have:=zF;have h3:reachBytes=140737488351232:=rfl;omega
 ·obtain ⟨cs,_,h⟩:=Hw hl hp
  exact h
end
section
abbrev gi_acceptRanges:Nat:=3
abbrev gi_first:Nat:=2
end
section
open Go.ChangeShapes Go.WideShapes Go.ChangeAt Go.RowKit Go.Deep
def Lz:DataW Unit→List Value
 | .agg l=>l.map fun
  | .lit (.int k z)=> .int k z
  |_=>undef
 |_=> []
def LA:DataW Unit→List Value
 | .agg l=>l.flatMap Lz
 |_=> []
noncomputable def Fv (os:Os):Array Obj:=DB (DB (DB (World.holding Tryz.prog os ⟨#[], #[],[]⟩).heap gi_deBruijn32tab gv_deBruijn32tab) gi_deBruijn64tab gv_deBruijn64tab) gi_uint64pow10 gv_uint64pow10
noncomputable def vj (os:Os):Array Obj:=DB (DB (Fv os) gi_first (Lz Rows.laid_unicode_utf8_first)) gi_acceptRanges (LA Rows.laid_unicode_utf8_acceptRanges)
noncomputable def qE (os:Os):World:=
 { World.holding Tryz.prog os ⟨#[], #[],[]⟩ with heap:=DB (DB (vj os) gi_ErrRange [.iface 326 (.pointer (some ⟨(vj os).size,0,none⟩))]) gi_ErrSyntax [.iface 326 (.pointer (some ⟨(vj os).size+1,0,none⟩))]
    ++ #[.cells #[.string ⟨#[118,97,108,117,101,32,111,117,116,32,111,102,32,114,97,110,103,101]⟩] 328 (0,0),.cells #[.string ⟨#[105,110,118,97,108,105,100,32,115,121,110,116,97,120]⟩] 328 (0,0)]}
end
section
open Go.ChangeShapes Go.WideShapes Go.ChangeAt Go.RowKit Go.Deep
theorem zG:Tryz.prog.cellsOf 26=6:=kk
theorem Ex:Tryz.prog.cellsOf 78=7:=kk
theorem Jp:Tryz.prog.bytesOf 26=88:=kk
theorem Jq:Tryz.prog.bytesOf 78=104:=kk
theorem Fw (l:List V):aF l=l.map dP:=by
 induction l with
 |nil=>rfl
 |cons x l ih=>simp [aF,ih]
theorem Fx (l:List (ByteArray×V)):ak l=l.map fun p=> .str p.1::dP p.2:=by
 induction l with
 |nil=>rfl
 |cons x l ih=>obtain ⟨y,x⟩:=x;simp [ak,ih]
theorem K3:Tryz.prog.cellsOf 3=1:=kk
theorem Hx:Tryz.prog.cellsOf 2=1:=kk
theorem K4:Tryz.prog.cellsOf 4=1:=kk
theorem Jr:Tryz.prog.cellsOf 23=1:=kk
theorem Js:Tryz.prog.cellsOf 24=1:=kk
theorem Hy {α:Type} {size:Nat} {R:List Value→α→Prop} {w:World} {B:Nat} {v:Value} {l:List α} (h:Sl size R w B v l) {x:α} (j:x∈l): ∃cs,R cs x:=by
 obtain ⟨A,cap,_,_,g⟩:=h;obtain ⟨i,hi⟩:=List.getElem?_of_mem j;obtain ⟨_,_,_,_,cs,_,p,_⟩:=g i x hi;exact ⟨cs,p⟩
theorem Bv {H:Type} {enc:TypeId×Value→H} {w:World} {base:Nat} {spare:Nat→Bool} {held:Bool}: ∀(n:Nat) (cs:List Value) (y:DataW H×List MemPlace),
  DataW.trod enc Tryz.prog w base spare held n 26 cs=some y→WtOk Tryz.prog 26 y.1→ ∃v:V,RelL (σW w) cs (dP v)∧v.sb:=by
 intro n
 induction n using Nat.strongRecOn with
 |_ n ih=>
  intro cs y h r;obtain ⟨xs,m,hm,hy,hl,g,C⟩:=DataW.trod_struct Tryz.underlying26 h;rw [zG] at hl;obtain ⟨c0,J,c2,c3,c4,c5,rfl⟩:=GS hl;obtain ⟨x0,x1,x2,x3,x4,x5,rfl⟩:=GS (show xs.length=6 from g);rw [hy] at r;have f0:DataW.trod enc Tryz.prog w base spare held m 3 (List.take (Tryz.prog.cellsOf 3) (List.drop 0 [c0,J,c2,c3,c4,c5]))=some x0:=C 0 _ rfl;have f1:DataW.trod enc Tryz.prog w base spare held m 4 (List.take (Tryz.prog.cellsOf 4) (List.drop 1 [c0,J,c2,c3,c4,c5]))=some x1:=C 1 _ rfl;have f2:DataW.trod enc Tryz.prog w base spare held m 2 (List.take (Tryz.prog.cellsOf 2) (List.drop 2 [c0,J,c2,c3,c4,c5]))=some x2:=C 2 _ rfl;have f3:DataW.trod enc Tryz.prog w base spare held m 9 (List.take (Tryz.prog.cellsOf 9) (List.drop 3 [c0,J,c2,c3,c4,c5]))=some x3:=C 3 _ rfl;have f4:DataW.trod enc Tryz.prog w base spare held m 23 (List.take (Tryz.prog.cellsOf 23) (List.drop 4 [c0,J,c2,c3,c4,c5]))=some x4:=C 4 _ rfl;have f5:DataW.trod enc Tryz.prog w base spare held m 24 (List.take (Tryz.prog.cellsOf 24) (List.drop 5 [c0,J,c2,c3,c4,c5]))=some x5:=C 5 _ rfl;have w3:WtOk Tryz.prog 9 x3.1:=WtOk.part Tryz.underlying26 r (j:=3) rfl rfl;have w4:WtOk Tryz.prog 23 x4.1:=WtOk.part Tryz.underlying26 r (j:=4) rfl rfl;have w5:WtOk Tryz.prog 24 x5.1:=WtOk.part Tryz.underlying26 r (j:=5) rfl rfl;simp only [K3,Hx,K4,Dz,Jr,Js,List.drop_succ_cons,List.drop_zero,List.take_succ_cons,List.take_zero] at f0 f1 f2 f3 f4 f5;obtain ⟨k,I,_⟩:=DataW.trod_int Tryz.underlying3 f0;obtain ⟨b,U,_⟩:=DataW.trod_bool Tryz.underlying4 f1;obtain ⟨i,e2,_⟩:=DataW.trod_int Tryz.underlying2 f2;obtain ⟨s,e3,hx3,_⟩:=DataW.trod_string Tryz.underlying9 f3;injection I with I;injection U with U;injection e2 with e2;injection e3 with e3
  subst I U e2 e3;rw [hx3] at w3;obtain ⟨l,P,hl2⟩:=lV (R:=fun cs (v:V)=>RelL (σW w) cs (dP v)∧v.sb) Tryz.underlying23 zG (by decide) f4 w4 (fun n' cs y hn h r=>ih n' (by omega) cs y h r)
  obtain ⟨mm,T,hm2⟩:=lV (R:=fun cs (p:ByteArray×V)=>RelL (σW w) cs (.str p.1::dP p.2)∧p.1.size≤140737488355328∧p.2.sb) Tryz.underlying24 Ex (by decide) f5 w5 (fun n' cs y hn h r=>by
   obtain ⟨xs,m',hm',hy,hl,g,C⟩:=DataW.trod_struct Tryz.underlying78 h;rw [Ex] at hl;obtain ⟨d0,d1,d2,d3,d4,d5,d6,rfl⟩:=Lv hl
   obtain ⟨z0,z1,rfl⟩: ∃a b,xs= [a,b]:=by
    have g:xs.length=2:=g;rcases xs with _|⟨a,_|⟨b,_|⟨c,l⟩⟩⟩<;>simp at g
    exact ⟨a,b,rfl⟩
   rw [hy] at r;have g0:DataW.trod enc Tryz.prog w base spare held m' 9 (List.take (Tryz.prog.cellsOf 9) (List.drop 0 [d0,d1,d2,d3,d4,d5,d6]))=some z0:=C 0 _ rfl;have g1:DataW.trod enc Tryz.prog w base spare held m' 26 (List.take (Tryz.prog.cellsOf 26) (List.drop 1 [d0,d1,d2,d3,d4,d5,d6]))=some z1:=C 1 _ rfl;have v0:WtOk Tryz.prog 9 z0.1:=WtOk.part Tryz.underlying78 r (j:=0) rfl rfl;have v1:WtOk Tryz.prog 26 z1.1:=WtOk.part Tryz.underlying78 r (j:=1) rfl rfl;simp only [Dz,zG,List.drop_succ_cons,List.drop_zero,List.take_succ_cons,List.take_zero] at g0 g1;obtain ⟨y,I,hz0,_⟩:=DataW.trod_string Tryz.underlying9 g0;injection I with I
   subst I;rw [hz0] at v0;obtain ⟨v,hv1,hv2⟩:=ih m' (by omega) _ z1 g1 v1;exact ⟨(y,v),.cons (.str y) hv1,vh v0,hv2⟩)
  rw [Jp] at hl2;rw [Jq] at hm2;have h47:=zF;refine ⟨.mk k b i s l mm,?_,?_⟩
  ·rw [dP]
   refine .cons (.int _ _) (.cons (.bool _) (.cons (.int _ _) (.cons (.str _) (.cons ?_ (.cons ?_ .nil)))))
   ·rw [Fw];exact qD P dP fun cs x h=>h.1
   ·rw [Fx];exact qD T (fun p=> .str p.1::dP p.2) fun cs x h=>h.1
  ·rw [V.sb]
   refine ⟨vh w3,⟨by omega,by omega⟩,(it l).2 fun x hx=> ?_,(fG mm).2 fun p hp=> ?_⟩
   ·obtain ⟨cs,h⟩:=Hy P hx;exact h.2
   ·obtain ⟨cs,h⟩:=Hy T hp;exact h.2
theorem vo {P:Program} {w:World} {r:Reach} {base:Nat} {t:TypeId} {v:Value} {g:Array Field} (ht:P.underlying t=some (.struct g)) (h:Value.okWide P w r base t v): ∃cs:Array Value,v= .agg cs:=by
 simp only [Value.okWide,ht] at h;obtain ⟨cs,i,_⟩:=h;exact ⟨cs,i⟩
theorem Jt {H:Type} {enc:TypeId×Value→H} {W:World} {base:Nat} {spare:Nat→Bool} {held:Bool} {v:Value} {d:DataW H} {p:List MemPlace} (i: ∃cs:Array Value,v= .agg cs) (h:DataW.Trod enc Tryz.prog W base spare held 26 v d p) (j:WtOk Tryz.prog 26 d):
  ∃u:V,RelP (σW W) v ((vA (u)))∧u.sb:=by
 obtain ⟨cs,rfl⟩:=i;obtain ⟨fuel,r⟩:=h;obtain ⟨u,g,C⟩:=Bv fuel _ _ r j;rw [bM] at g;exact ⟨u,⟨cs.toList,by simp,g⟩,C⟩
end
section
open Go.RowKit
def rO (w:ByteArray):Bool:= !(decide (w=⟨#[]⟩)||decide (w=⟨#[46]⟩)||decide (w=⟨#[46,46]⟩)|| !fD (fd w ⟨#[95]⟩))
def pf (s:ByteArray):Bool:=(cz 47 s).all rO&&decide (s.size≤256)
def qF (p:ByteArray×ByteArray):List (ByteArray×ByteArray)→List (ByteArray×ByteArray)
 | []=> [p]
 |q::l=>if Op.bytesLess q.1.toList p.1.toList=true then q::qF p l else p::q::l
def iz (l:List (ByteArray×ByteArray)):List (ByteArray×ByteArray):=l.foldl (fun out p=>qF p out) []
theorem Bw (p:ByteArray×ByteArray): ∀l,(qF p l).length=l.length+1
 | []=>rfl
 |q::l=>by rw [qF];split<;>simp [Bw p l]
theorem xW (l:List (ByteArray×ByteArray)):(iz l).length=l.length:=by
 have key: ∀(l out:List (ByteArray×ByteArray)),(l.foldl (fun out p=>qF p out) out).length=out.length+l.length:=by
  intro l
  induction l with
  |nil=>intro out;rfl
  |cons p l ih=>intro out;rw [List.foldl_cons,ih,Bw,gA3];omega
 rw [iz,key];simp
theorem mj (p:ByteArray×ByteArray): ∀l,(qF p l).Perm (p::l)
 | []=> .refl _
 |q::l=>by
  rw [qF];split
  ·exact ((mj p l).cons q).trans (.swap p q l)
  ·exact .refl _
theorem vp (l:List (ByteArray×ByteArray)):(iz l).Perm l:=by
 have key: ∀(l out:List (ByteArray×ByteArray)),(l.foldl (fun out p=>qF p out) out).Perm (out++l):=by
  intro l
  induction l with
  |nil=>intro out;simp
  |cons p l ih=>
   intro out;rw [List.foldl_cons];refine (ih (qF p out)).trans (((mj p out).append_right l).trans ?_);exact (List.perm_middle (l₁:=out) (a:=p) (l₂:=l)).symm
 exact key l []
theorem vq {p:ByteArray×ByteArray}: ∀{l:List (ByteArray×ByteArray)},l.Pairwise (fun x y=>klt x.1 y.1)→(∀q∈l,q.1≠p.1)→(qF p l).Pairwise fun x y=>klt x.1 y.1
 | [],_,_=>List.pairwise_singleton _ _
 |q::l,h,hn=>by
  obtain ⟨r,C⟩:=List.pairwise_cons.1 h;rw [qF];split
  ·rename_i j
   refine List.pairwise_cons.2 ⟨fun x g=> ?_,vq C fun x g=>hn x (by simp [g])⟩;rcases gB2 ((mj p l).mem_iff.1 g) with rfl|g
   ·exact j
   ·exact r x g
  ·rename_i j
   have i:klt p.1 q.1:=by
    refine pX (by simpa using j) ?_;rw [beq_eq_false_iff_ne];intro e;refine hn q (by simp) ?_;rw [ByteArray.toList_eq,ByteArray.toList_eq] at e;exact ByteArray.ext (Array.toList_inj.1 e)
   refine List.pairwise_cons.2 ⟨fun x g=> ?_,h⟩;rcases gB2 g with rfl|g
   ·exact i
   ·exact jf i (r x g)
theorem Bx (l:List (ByteArray×ByteArray)) (hn:(l.map (·.1)).Nodup):(iz l).Pairwise fun x y=>klt x.1 y.1:=by
 have key: ∀(l out:List (ByteArray×ByteArray)),out.Pairwise (fun x y=>klt x.1 y.1)→((out++l).map (·.1)).Nodup→(l.foldl (fun out p=>qF p out) out).Pairwise fun x y=>klt x.1 y.1:=by
  intro l
  induction l with
  |nil=>intro out h _;exact h
  |cons p l ih=>
   intro out h hd;rw [List.foldl_cons];refine ih _ (vq h fun q g e=> ?_) ?_
   ·rw [List.map_append,List.nodup_append] at hd
    exact hd.2.2 q.1 (List.mem_map.2 ⟨q,g,rfl⟩) p.1 (by simp) e
   ·have i:(qF p out++l).Perm (out++p::l):=((mj p out).append_right l).trans (List.perm_middle (l₁:=out) (a:=p) (l₂:=l)).symm
    exact (i.map (·.1)).nodup_iff.2 hd
 exact key l [] .nil hn
def gR (pre:List Fl) (f:Fl):Int:=if pf f.1=false then 22 else if 65536<f.2.size then 6 else if (pre.any fun g=>decide (g.1=f.1))=true then 13 else 0
def eo:List Fl→List Fl→ByteArray×Int
 |_,[]=>(⟨#[]⟩,0)
 |pre,f::r=>if gR pre f≠0 then (f.1,gR pre f) else eo (pre++ [f]) r
def bj (l:List Fl):List Fl×ByteArray×Int:=if 32<l.length then ([],⟨#[]⟩,6) else if (eo [] l).2≠0 then ([],(eo [] l).1,(eo [] l).2) else (iz l,⟨#[]⟩,0)
theorem Fy {l:List Fl} {k:Nat} {f:Fl} (h:l[k]? =some f):eo (l.take k) (l.drop k)=if gR (l.take k) f≠0 then (f.1,gR (l.take k) f) else eo (l.take (k+1)) (l.drop (k+1)):=by
 obtain ⟨g,i⟩:=gA0 h;rw [List.drop_eq_getElem_cons g,i,eo,List.take_add_one,h];rfl
theorem rP: ∀(r pre:List Fl),(pre.map (·.1)).Nodup→(eo pre r).2=0→((pre++r).map (·.1)).Nodup∧ ∀f∈r,pf f.1=true∧f.2.size≤65536
 | [],pre,h,_=>⟨by simpa using h,fun f i=>by cases i⟩
 |f::r,pre,h,j=>by
  rw [eo] at j;by_cases i:gR pre f≠0
  ·rw [if_pos i] at j
   exact absurd j i
  rw [if_neg i] at j;have i:gR pre f=0:=by omega
  unfold gR at i;split at i
  ·cases i
  rename_i p;split at i
  ·cases i
  rename_i R;split at i
  ·cases i
  rename_i C
  have hnd:((pre++ [f]).map (·.1)).Nodup:=by
   rw [List.map_append,List.nodup_append];refine ⟨h,by simp,fun a I b hb e=> ?_⟩;rw [List.map_cons,List.map_nil,List.mem_singleton] at hb;obtain ⟨g,hg,rfl⟩:=List.mem_map.1 I;exact C (List.any_eq_true.2 ⟨g,hg,by rw [e,hb];simp⟩)
  obtain ⟨J,P⟩:=rP r (pre++ [f]) hnd j;refine ⟨by simpa using J,fun g hg=> ?_⟩;rcases gB2 hg with rfl|hg
  ·exact ⟨by simpa using p,by omega⟩
  ·exact P g hg
theorem xX {l:List Fl} (h:(bj l).2.2=0):l.length≤32∧(l.map (·.1)).Nodup∧(∀f∈l,pf f.1=true∧f.2.size≤65536)∧(bj l).1=iz l∧(eo [] l).2=0:=by
 unfold bj at h⊢;split at h
 ·cases h
 rename_i i;split at h
 ·rename_i g
  exact absurd h g
 rename_i g;rw [if_neg i,if_neg g];obtain ⟨j,p⟩:=rP l [] (by simp) (by omega);exact ⟨by omega,by simpa using j,p,rfl,by omega⟩
end
section
set_option maxRecDepth 100000
def zH:ACode:=
 .seq (gQ [⟨gO,.mov 2 (.k (.bool false))⟩]) (.seq (.seq (gQ [gM 5 0,⟨gO,.call (some 6) (.k (.fn 52 [])) [.s 5,gS ⟨#[47]⟩]⟩,gH 7 false 6,gJ 8 0]) (.block 0 (.loop (.seq (gQ [gV 9 .lss 8 7]) (.seq (.cond (.s 9) .skip (.exit 0)) (.seq (.block 1 (.seq (gQ [gE 10 1 6 8,gL 11 10,gM 4 11]) (.seq (gQ [gM 12 4,⟨gO,gB 13 .eql (.s 12) (gS ⟨#[]⟩)⟩,gM 14 13,gN 14 false 15 4,⟨some (14,false),.bin 16 .eql false (.s 15) (gS ⟨#[46]⟩)⟩,⟨gO,.pick 17 (.s 14) (.k (.bool true)) (.s 16)⟩,gM 18 17,gN 18 false 19 4,⟨some (18,false),.bin 20 .eql false (.s 19) (gS ⟨#[46,46]⟩)⟩,⟨gO,.pick 21 (.s 18) (.k (.bool true)) (.s 20)⟩,gM 22 21,gN 22 false 23 4,⟨some (22,false),.call (some 24) (.k (.fn 54 [])) [.s 23,gS ⟨#[95]⟩]⟩,⟨some (22,false),.call (some 25) (.k (.fn 53 [])) [.s 24]⟩,⟨some (22,false),.un 26 .not (.s 25)⟩,⟨gO,.pick 27 (.s 22) (.k (.bool true)) (.s 26)⟩]) (.cond (.s 27) (.seq (gQ [⟨gO,.mov 2 (.k (.bool false))⟩]) .ret) .skip)))) (.reg [gU 28 .add 8 1,gM 8 28]))))))) (.seq (gQ [gM 29 0,gH 30 true 29,gU 31 .leq 30 256,gM 2 31]) .ret))
def zI:AFn:=⟨1,32,zH,[.tmp 2]⟩
theorem sR:ax Tryz.prog mU2 Tryz.f17=some zI:=kk
theorem sS:aa Tryz.prog 17=true:=kk
def wV:ACode:=
 .seq (gQ [⟨gO,.mov 2 (.k (.lst .nil 2 []))⟩,⟨gO,.mov 3 (gS ⟨#[]⟩)⟩,gJ 4 0]) (.seq (.seq (gQ [gM 7 0,gH 8 false 7,gU 9 .gtr 8 32]) (.cond (.s 9) (.seq (gQ [⟨gO,.mov 2 (.k (.lst .nil 2 []))⟩,⟨gO,.mov 3 (gS ⟨#[]⟩)⟩,gJ 4 6]) .ret) .skip)) (.seq (.seq (gQ [gM 10 0,gH 11 false 10,gJ 12 0]) (.block 0 (.loop (.seq (gQ [gV 13 .lss 12 11]) (.seq (.cond (.s 13) .skip (.exit 0)) (.seq (.block 1 (.seq (gQ [gM 14 12,gE 15 2 10 12,gA 16 2 15,⟨gO,.alloc 6 [.str ⟨#[]⟩,.str ⟨#[]⟩]⟩,gM 5 14,gT 2 6 16]) (.block 2 (.seq (gQ [gF 18 0 6,gL 19 18,gC 20 17 [.s 19],⟨gO,.un 21 .not (.s 20)⟩,gM 17 21]) (.cond (.s 17) (.seq (gQ [gF 22 0 6,gL 23 22,⟨gO,.mov 2 (.k (.lst .nil 2 []))⟩,gM 3 23,gJ 4 22]) .ret) (.seq (gQ [gF 25 1 6,gL 26 25,gH 27 true 26,gU 28 .gtr 27 65536,gM 24 28]) (.cond (.s 24) (.seq (gQ [gF 29 0 6,gL 30 29,⟨gO,.mov 2 (.k (.lst .nil 2 []))⟩,gM 3 30,gJ 4 6]) .ret) (.seq (gQ [gM 32 0,gM 33 5,⟨gO,.sub 34 false 2 (.s 32) none (some (.s 33))⟩,⟨gO,.mkfn 35 81 [.s 6]⟩,gC 36 80 [.s 34,.s 35],gM 31 36]) (.cond (.s 31) (.seq (gQ [gF 37 0 6,gL 38 37,⟨gO,.mov 2 (.k (.lst .nil 2 []))⟩,gM 3 38,gJ 4 13]) .ret) .skip))))))))) (.reg [gU 39 .add 12 1,gM 12 39]))))))) (.seq (gQ [gM 40 0,gC 41 82 [.s 40],gM 0 41]) (.seq (gQ [gM 42 0,⟨gO,.calls (some 43) (.k (.fn 83 [])) [.s 42,.k (.fn 84 [])]⟩]) (.seq (gQ [gM 44 0,gM 2 44,⟨gO,.mov 3 (gS ⟨#[]⟩)⟩,gJ 4 0]) .ret)))))
def wW:AFn:=⟨1,45,wV,[.tmp 2,.tmp 3,.tmp 4]⟩
theorem qG:ax Tryz.prog mU2 Tryz.f39=some wW:=kk
theorem qH:aa Tryz.prog 39=true:=kk
def sT:ACode:=
 .seq (gQ [gP 2 0,⟨gO,.mov 3 (.k (.bool false))⟩]) (.seq (gQ [gF 4 0 2,gL 5 4,gF 6 0 1,gL 7 6,gV 8 .eql 5 7,gM 3 8]) .ret)
def sU:AFn:=⟨1,9,sT,[.tmp 3]⟩
theorem nV:ax Tryz.prog mU2 Tryz.f81=some sU:=kk
theorem nW:aa Tryz.prog 81=true:=kk
def gW:ACode:=
 .seq (gQ [⟨gO,.mov 4 (.k (.bool false))⟩]) (.seq (gQ [gM 5 0,gM 6 1,gC 7 134 [.s 5,.s 6],gU 8 .geq 7 0,gM 4 8]) .ret)
def gY:AFn:=⟨2,9,gW,[.tmp 4]⟩
theorem ff:ax Tryz.prog mU2 Tryz.f80=some gY:=kk
theorem fg:aa Tryz.prog 80=true:=kk
def jl:ACode:=
 .seq (gQ [gJ 4 0]) (.seq (.seq (gQ [gM 6 0,gH 7 false 6,gJ 8 0]) (.block 0 (.loop (.seq (gQ [gV 9 .lss 8 7]) (.seq (.cond (.s 9) .skip (.exit 0)) (.seq (.block 1 (.seq (gQ [gM 10 8,gM 5 10]) (.seq (gQ [gM 11 1,gM 12 0,gM 13 5,gE 14 2 12 13,gA 15 2 14,⟨gO,.call (some 16) (.s 11) [.s 15]⟩]) (.cond (.s 16) (.seq (gQ [gM 17 5,gM 4 17]) .ret) .skip)))) (.reg [gU 18 .add 8 1,gM 8 18]))))))) (.seq (gQ [⟨gO,.mov 4 (.k (.int .i64 (-1)))⟩]) .ret))
def jm:AFn:=⟨2,19,jl,[.tmp 4]⟩
theorem g5:ax Tryz.prog mU2 Tryz.f134=some jm:=kk
theorem g6:aa Tryz.prog 134=true:=kk
theorem ep:aa Tryz.prog 82=true:=kk
end
section
open Go.RowKit
def zJ:Value:= .agg #[.string ⟨#[]⟩,.string ⟨#[]⟩]
theorem xY:(Tryz.prog.info? 52).map (fun i=>(i.zero,i.size,i.bytes))=some (some zJ,2,32):=kk
set_option maxRecDepth 100000 in
theorem DD (rows:List (List AV)) (P:0<rows.length) (hb:rows.length*32≤140737488355328):MF Tryz.prog 82 [.lst .any 2 rows] 2 rows:=by
 refine ⟨ep,fun σ w vs J hr hg=> ?_⟩;obtain ⟨v,rfl⟩:=List.length_eq_one_iff.1 hr.1;have h1:Rel1 σ v (.lst .any 2 rows):=hr.2 0 v _ rfl rfl;obtain ⟨A,cap,b,o,news,rfl,hcap,hA,hsz,g,hrel,i⟩:=cI h1;have:=hA P;subst this;obtain ⟨i0,R,T,U,hzb⟩:=info_parts xY
 obtain ⟨r,hz1,hz2,C⟩: ∃r:List Value,(∀u∈r,u.oneCell' =true)∧rows.length*2+r.length=grownCap (w.alloc (.cells #[] 52)) (0+rows.length) 0 52*2∧
   ∀ty,(Builtin.append_ #[22,22] ty #[.slice (some ⟨w.heap.size,0,none⟩) 0 0,.slice (some ⟨b,o,none⟩) rows.length cap]).run Tryz.prog (w.alloc (.cells #[] 52))=
    .ok (.slice (some ⟨w.heap.size+1,0,none⟩) rows.length (grownCap (w.alloc (.cells #[] 52)) (0+rows.length) 0 52)) ((w.alloc (.cells #[] 52)).drew.alloc (.cells (news++r).toArray 52)):=by
  have hge:=grownCap_ge (w.alloc (.cells #[] 52)) (0+rows.length) 0 52;refine ⟨(Builtin.zeroCells zJ.cells (grownCap (w.alloc (.cells #[] 52)) (0+rows.length) 0 52-(0+rows.length))).toList,fR (by simp [zJ,Value.cells,Value.oneCell']) _,?_,fun ty=> ?_⟩
  ·have:(zJ.cells).size=2:=rfl
   simp only [Array.length_toList,size_zeroCells,this];rw [←gC3];congr 1;omega
  ·have:=run_append_grow (w.alloc (.cells #[] 52)) 22 ty 52 i0 _ Tryz.underlying22 R T ⟨w.heap.size,0,none⟩ 0 0 [] (by simp) (fun j v h=>by simp at h) ⟨b,o,none⟩ rows.length cap news (by rw [U];exact g)
    (fun j v hj=>by
     rw [Addr.add_lit];have h2:=J _ _ _ (i j v hj);rw [World.cell?_alloc_lt w _ _ (World.block_lt_of_cell? w _ h2)];exact h2) (by omega) (by omega) (by rw [hzb];exact growslice_fits (by omega) (by omega))
   rw [this];simp;congr 2;apply Array.ext';simp
 have q24: ∀(w:World) (a:Option Addr) (n c:Nat),(binOp .eql 22 (.slice a n c) (.slice none 0 0)).run Tryz.prog w= .ok (.bool a.isNone) w:=fun w a n c=>by simp [binOp,run_equal_slice_nil w _ _ a n c Tryz.underlying22]
 go_enter Tryz.func82,Tryz.ntmps82
 go_wp2_with (at_builtin;refine Lib.wpList_append_run _ rfl _ _ _ _ rfl _ _ rfl rfl _ _ (C _) ?_)
 go_wp2
 go_ret
 have hge:=grownCap_ge (w.alloc (.cells #[] 52)) (0+rows.length) 0 52;have I:Below w.heap.size w ((w.alloc (.cells #[] 52)).drew.alloc (.cells (news++r).toArray 52)):=(((Below.refl _ _).alloc (gA4 _) _).drew).alloc (by simp) _
 exact ⟨σ,w.heap.size+1,_,rfl,Ext.refl _ _,fun b q v hv=>(I.cell (p:=⟨b,q,none⟩) (World.block_lt_of_cell? w _ (J _ _ _ hv))).trans (J _ _ _ hv),I,by omega,
  by
   have:=FRowW.new (w1:=(w.alloc (.cells #[] 52)).drew) J (by simp) (e:=52) hrel hsz g hz1 (by rw [g];exact hz2) (by omega);have e:(w.alloc (.cells #[] 52)).drew.heap.size=w.heap.size+1:=by simp
   rw [e,Nat.zero_add] at this;exact this⟩
set_option maxRecDepth 100000 in
theorem By:AC Tryz.prog 82 [.lst .any 2 []] (.lst .any 2 []):=by
 refine ⟨ep,fun σ w vs C hr hg=> ?_⟩;obtain ⟨v,rfl⟩:=List.length_eq_one_iff.1 hr.1;have R:Rel1 σ v (.lst .any 2 []):=hr.2 0 v _ rfl rfl;obtain ⟨A,cap,b,o,news,rfl,_⟩:=cI R;have T: ∀(w:World) (a:Option Addr) (n c:Nat),(binOp .eql 22 (.slice a n c) (.slice none 0 0)).run Tryz.prog w= .ok (.bool a.isNone) w:=fun w a n c=>by simp [binOp,run_equal_slice_nil w _ _ a n c Tryz.underlying22]
 obtain ⟨i0,I,_⟩:=info_parts xY;have hrel: ∀(A:Option Addr) (cap:Nat),RelR σ (.slice A 0 cap) (.lst .any 2 []):=fun A cap=> .lst .any 2 [] A 0 cap 0 0 (fun _ _=>undef) rfl (by omega) (fun h=>by omega) (fun i c h=>by simp at h) (fun i j h=>by omega) (fun i j c a h=>by simp at h) trivial
 cases A with
 |none=>
  go_enter Tryz.func82,Tryz.ntmps82
  go_wp2
  go_ret
  exact ⟨σ,_,rfl,Ext.refl _ _,C,Below.refl _ _,hrel none 0⟩
 |some a=>
  have g:=fun ty=>cF (P:=Tryz.prog) (w.alloc (.cells #[] 52)) 22 ty 52 Tryz.underlying22 I (some ⟨w.heap.size,0,none⟩) (some a) 0 0 cap (by omega)
  go_enter Tryz.func82,Tryz.ntmps82
  go_wp2_with (at_builtin;refine Lib.wpList_append_run _ rfl _ _ _ _ rfl _ _ rfl rfl _ _ (g _) ?_)
  go_wp2
  go_ret
  have r:Below w.heap.size w (w.alloc (.cells #[] 52)):=(Below.refl _ _).alloc (gA4 _) _;exact ⟨σ,_,rfl,Ext.refl _ _,fun b q v J=>(r.cell (p:=⟨b,q,none⟩) (World.block_lt_of_cell? w _ (C _ _ _ J))).trans (C _ _ _ J),r,hrel _ _⟩
theorem K5 (s:ByteArray) (R:s.size≤1000000):AC Tryz.prog 17 [.str s] (.bool (pf s)):=by
 have h:=Bb 47 s R;have hl:=zo 47 s;refine kE Tryz.func17 sR sS fun E T=> ?_
 refine kW ?_;refine kQ [.v (.lst .any 1 (b0 (cz 47 s)))] ?_;refine kW ?_;refine aJ (fun k:Nat=>(au [(0,.str s),(6,.lst .any 1 (b0 (cz 47 s))),(7,.int .i64 (b0 (cz 47 s)).length),(8,.int .i64 k)],⟨ag [],fun _=>0⟩)) (fun k=>k≤(cz 47 s).length∧ ∀(j:Nat) w,j<k→(cz 47 s)[j]? =some w→rO w=true) (fun k=>(cz 47 s).length-k) 0 ⟨gB8 _,fun j w h=>by omega⟩ (wO ⟨kI,kI,kI,kI,trivial⟩ trivial rfl rfl) fun k ⟨U,i⟩=> ?_
 refine kW ?_;refine kC (fun hb=> ?_) fun hb=> ?_
 ·have g:k<(cz 47 s).length:=by simpa [di] using hb
  obtain ⟨x,hg⟩: ∃x,(cz 47 s)[k]? =some x:=⟨_,gA1 g⟩
  have J:=Bc (gA2 hg);have hc:=xN x ⟨#[95]⟩;refine kW ?_;refine kP [.c [.str x]] ?_ ?_
  ·((repeat' apply aI)<;>first|exact kD|(intro p;refine ⟨?_,kG⟩;(repeat' apply aI)<;>first|exact kD|skip)|skip)
   ·exact Ba hg
  refine kW ?_;refine kP [.v (.str (fd x ⟨#[95]⟩)),.v (.bool (fD (fd x ⟨#[95]⟩)))] ?_ ?_
  ·((repeat' apply aI)<;>first|exact kD|(intro p;refine ⟨?_,kG⟩;(repeat' apply aI)<;>first|exact kD|skip)|skip)
   all_goals first|exact G6 _ _|exact C8 _ (by omega)|skip
  refine kC (fun hb=> ?_) fun hb=> ?_
  ·refine kW ?_
   refine aR ⟨_,rfl,?_⟩;have r:rO x=false:=by rw [rO,hb];rfl
   have C:(cz 47 s).all rO=false:=List.all_eq_false.2 ⟨x,gA2 hg,by rw [r];simp⟩;rw [pf,C];rfl
  ·have r:rO x=true:=by rw [rO,hb];rfl
   refine kW ?_
   exact AK.lp ⟨k+1,⟨by omega,fun j w h I=>by
    by_cases e:j=k
    ·subst e;rw [hg] at I;cases I;exact r
    ·exact i j w (by omega) I⟩,wO ⟨kI,kI,kI,kU,trivial⟩ trivial rfl rfl,by omega⟩
 ·have g:k=(cz 47 s).length:=by have:(cz 47 s).length≤k:=by simpa [di] using hb
                                omega
  subst g;refine AK.exit rfl ?_;refine kW ?_;refine aR ⟨_,rfl,?_⟩
  have C:(cz 47 s).all rO=true:=List.all_eq_true.2 fun x J=>by
   obtain ⟨j,P⟩:=List.getElem?_of_mem J;exact i j x (gA0 P).1 P
  rw [pf,C];exact congrArg AV.bool (by rw [Bool.true_and,Bool.eq_iff_iff,gB0,gB0];omega)
end
end Go.Proofs.YtbgflifmanjpjaaGreatDoor
