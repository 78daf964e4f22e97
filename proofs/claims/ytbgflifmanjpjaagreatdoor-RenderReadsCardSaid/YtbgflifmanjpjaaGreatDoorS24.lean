/- Part 24. -/
import Derived.Test.YtbgflifmanjpjaaGreatDoorS23
import Derived.Test.YtbgflifmanjpjaaGreatDoorRows
set_option linter.unusedSimpArgs false
set_option linter.unusedVariables false
namespace Go.Proofs.YtbgflifmanjpjaaGreatDoor
section
open Go.ChangeShapes Go.WideShapes Go.ChangeAt Go.RowKit Go.Deep
theorem own:ownKnob Tryz.prog.godebug=none:=kk
theorem Lq:laidOutB Tryz.prog=true:=kk
theorem Lr:reachBytes≤140737488355328:=by decide
theorem M7 {H:Type} {s:ByteArray} (h:M6 (H:=H) Tryz.prog 9 (.lit (.string s.data.toList))):s.size≤140737488355328:=by
 have:=h s.data.toList.length (by simp [DataW.weights]);have g:=Lr;have e:s.data.toList.length=s.size:=by simp
 omega
theorem Ls {H:Type} {enc:TypeId×Value→H} {W:World} {base:Nat} {spare:Nat→Bool} {held:Bool} {v:Value} {d:DataW H} {p:List MemPlace} (g: ∃s,v= .string s) (h:DataW.Trod enc Tryz.prog W base spare held 9 v d p) (i:M6 Tryz.prog 9 d):
  ∃s:ByteArray,v= .string s∧s.size≤140737488355328∧d= .lit (.string s.data.toList):=by
 obtain ⟨s,rfl⟩:=g;obtain ⟨fuel,j⟩:=h;obtain ⟨s',e,r,_⟩:=DataW.trod_string Tryz.underlying9 j;injection e with e
 injection e with e
 subst e;injection r with C _
 subst C;exact ⟨s,rfl,M7 i,rfl⟩
theorem M8 {H:Type} {ts:List TypeId} {ds:List (DataW H)} (h:(DataW.weightsEach Tryz.prog ts ds).all (· ≤reachBytes)=true) {j:Nat} {t:TypeId} {d:DataW H} (ht:ts[j]? =some t) (g:ds[j]? =some d):M6 Tryz.prog t d:=fun q i=>by
 have:=List.all_eq_true.1 h q (DataW.weights_mem_each ht g q i);simpa using this
def AB (h:Array Obj) (g:Nat) (l:List Value):Array Obj:=h.modify g fun
 | .cells _ t frozen=> .cells l.toArray t frozen
 |o=>o
end
section
abbrev gi_acceptRanges:Nat:=3
abbrev gi_first:Nat:=2
end
section
open Go.ChangeShapes Go.WideShapes Go.ChangeAt Go.RowKit Go.Deep
def NL:DataW Unit→List Value
 | .agg l=>l.map fun
  | .lit (.int k z)=> .int k z
  |_=>undef
 |_=> []
def NN:DataW Unit→List Value
 | .agg l=>l.flatMap NL
 |_=> []
noncomputable def HD (os:Os):Array Obj:=AB (AB (AB (AB (AB (World.holding Tryz.prog os ⟨#[], #[],[]⟩).heap gi_deBruijn32tab gv_deBruijn32tab) gi_deBruijn64tab gv_deBruijn64tab) gi_uint64pow10 gv_uint64pow10) gi_names gv_names) gi_order gv_order
noncomputable def ww (os:Os):Array Obj:=AB (AB (HD os) gi_first (NL Rows.laid_unicode_utf8_first)) gi_acceptRanges (NN Rows.laid_unicode_utf8_acceptRanges)
noncomputable def rm (os:Os):World:=
 { World.holding Tryz.prog os ⟨#[], #[],[]⟩ with heap:=AB (AB (ww os) gi_ErrRange [.iface 326 (.pointer (some ⟨(ww os).size,0,none⟩))]) gi_ErrSyntax [.iface 326 (.pointer (some ⟨(ww os).size+1,0,none⟩))]
    ++ #[.cells #[.string ⟨#[118,97,108,117,101,32,111,117,116,32,111,102,32,114,97,110,103,101]⟩] 328 (0,0),.cells #[.string ⟨#[105,110,118,97,108,105,100,32,115,121,110,116,97,120]⟩] 328 (0,0)]}
end
section
open Go.RowKit
def fh:Value:= .agg #[.string ⟨#[]⟩,.string ⟨#[]⟩,.string ⟨#[]⟩,.int .i64 0,.bool false,.int .i64 0,.string ⟨#[]⟩,.slice none 0 0,.slice none 0 0]
theorem mJ:(Tryz.prog.info? 133).map (fun i=>(i.zero,i.size,i.bytes))=some (some fh,9,136):=kk
set_option maxHeartbeats 4000000 in
set_option maxRecDepth 100000 in
theorem rn (g cap n:Nat) (e:TypeId) (i:Array Value) (xc:List Value) (P R p:Nat) (w:World) (hg:w.heap[g]? =some (.cells i e (0,0))) (hsz:i.size=cap*9) (r:n+1≤cap)
  (C:xc.length=9) (U: ∀(j:Nat) v,xc[j]? =some v→w.cell? ⟨P,R+j,none⟩=some v) (h1: ∀v∈xc,v.oneCell' =true):
  Calls Tryz.prog 172 #[.slice (some ⟨g,0,none⟩) n cap,.int .i64 n,.slice (some ⟨P,R,none⟩) 1 p] w fun e' w' =>
   e' = .returned (.slice (some ⟨g,0,none⟩) (n+1) cap)∧w' =w.setRow g (i.toList.take (n*9)++xc++i.toList.drop (n*9+9)).toArray:=by
 obtain ⟨i0,T,hz0,I,hzb⟩:=info_parts mJ
 have J: ∀ty,(Builtin.append_ #[66,66] ty #[.slice (some ⟨g,0,none⟩) n cap,.slice (some ⟨P,R,none⟩) 1 p]).run Tryz.prog w= .ok (.slice (some ⟨g,0,none⟩) (n+1) cap) (w.setRow g (i.toList.take (n*9)++xc++i.toList.drop (n*9+9)).toArray):=fun ty=>by
  have:=dx w 66 ty 133 e i0 Tryz.underlying66 T g n cap i hg ⟨P,R,none⟩ 1 p xc (by rw [I,C]) (fun j u hj=>by rw [Addr.add_lit];exact U j u hj) h1 r (by rw [I,C,hsz];have:=Nat.mul_le_mul_right 9 r;omega);rw [I,C] at this;exact this
 go_enter Tryz.func172,Tryz.ntmps172
 go_wp2_with (at_builtin;refine Lib.wpList_append_run _ rfl _ _ _ _ rfl _ _ rfl rfl _ _ (J _) ?_)
 go_ret
 exact ⟨rfl,by simp⟩
def InsNewO (w:World) (k:Nat) (cs:List Value) (i:Ending) (w' :World):Prop:= ∃(cap' :Nat) (g:List Value),k≤cap' ∧(∀u∈g,u.oneCell' =true)∧k*9+g.length=cap' *9∧
 i= .returned (.slice (some ⟨w.heap.size,0,none⟩) k cap')∧ ∃w0:World,w'.heap=w0.heap∧Below w.heap.size w w' ∧w0.heap[w.heap.size]? =some (.cells (cs++g).toArray 133 (0,0))
theorem InsNewO.of {w:World} {k cap' :Nat} {cs g:List Value} (i:k≤cap') (j: ∀u∈g,u.oneCell' =true) (p:k*9+g.length=cap' *9):InsNewO w k cs (.returned (.slice (some ⟨w.heap.size,0,none⟩) k cap')) (w.drew.alloc (.cells (cs++g).toArray 133)):=
 ⟨cap',g,i,j,p,rfl,_,rfl,((Below.refl _ _).drew).alloc (gA4 _) _,heap_alloc_new w.drew _⟩
set_option maxHeartbeats 4000000 in
set_option maxRecDepth 100000 in
theorem rp (g cap n:Nat) (i xc:List Value) (T U C:Nat) (w:World) (I:cap<n+1) (hb:(n+1)*136≤140737488355328) (hol:i.length=n*9) (hold: ∀(j:Nat) v,i[j]? =some v→w.cell? ⟨g,j,none⟩=some v)
  (hxl:xc.length=9) (hx: ∀(j:Nat) v,xc[j]? =some v→w.cell? ⟨T,U+j,none⟩=some v):
  Calls Tryz.prog 172 #[.slice (some ⟨g,0,none⟩) n cap,.int .i64 n,.slice (some ⟨T,U,none⟩) 1 C] w (InsNewO w (n+1) (i++xc)):=by
 obtain ⟨i0,hi0,hz0,J,hzb⟩:=info_parts mJ;have hge:=grownCap_ge w (n+1) cap 133;obtain ⟨cap',p⟩: ∃c,c=grownCap w (n+1) cap 133:=⟨_,rfl⟩
 obtain ⟨P,r⟩: ∃P,P=(Builtin.zeroCells fh.cells (grownCap w (n+1) cap 133-(n+1))).toList:=⟨_,rfl⟩
 have hz1: ∀u∈P,u.oneCell' =true:=by rw [r];exact dz (by simp [fh,Value.cells,Value.oneCell']) _
 have hz2:(n+1)*9+P.length=cap' *9:=by
  have:(fh.cells).size=9:=rfl;rw [r,p];simp only [Array.length_toList,size_zeroCells,this];rw [←gC3];congr 1;omega
 have R: ∀ty,(Builtin.append_ #[66,66] ty #[.slice (some ⟨g,0,none⟩) n cap,.slice (some ⟨T,U,none⟩) 1 C]).run Tryz.prog w= .ok (.slice (some ⟨w.heap.size,0,none⟩) (n+1) cap') (w.drew.alloc (.cells ((i++xc)++P).toArray 133)):=fun ty=>by
  have:=run_append_grow w 66 ty 133 i0 _ Tryz.underlying66 hi0 hz0 ⟨g,0,none⟩ n cap i (by rw [J];exact hol) (fun j u hj=>by rw [Addr.add_lit,Nat.zero_add];exact hold j u hj) ⟨T,U,none⟩ 1 C xc (by rw [J,hxl]) (fun j u hj=>by rw [Addr.add_lit];exact hx j u hj) I (by omega) (by rw [hzb];exact growslice_fits I hb);rw [this,p,r];congr 3;apply Array.ext';simp
 have hcg:n+1≤cap' :=by rw [p];exact hge
 clear p r
 go_enter Tryz.func172,Tryz.ntmps172
 go_wp2_with (at_builtin;refine Lib.wpList_append_run _ rfl _ _ _ _ rfl _ _ rfl rfl _ _ (R _) ?_)
 all_goals (go_ret;have:=InsNewO.of (w:=w) (cs:=i++xc) hcg hz1 hz2;rw [List.append_assoc] at this;exact this)
set_option maxHeartbeats 4000000 in
set_option maxRecDepth 100000 in
theorem CB (xc:List Value) (I J p:Nat) (w:World) (P:xc.length=9) (hx: ∀(j:Nat) v,xc[j]? =some v→w.cell? ⟨I,J+j,none⟩=some v):
  Calls Tryz.prog 172 #[.slice none 0 0,.int .i64 0,.slice (some ⟨I,J,none⟩) 1 p] w (InsNewO w 1 xc):=by
 obtain ⟨i0,R,T,U,hzb⟩:=info_parts mJ;have hge:=grownCap_ge w 1 0 133;obtain ⟨cap',g⟩: ∃c,c=grownCap w 1 0 133:=⟨_,rfl⟩
 obtain ⟨r,i⟩: ∃r,r=(Builtin.zeroCells fh.cells (grownCap w 1 0 133-1)).toList:=⟨_,rfl⟩
 have hz1: ∀u∈r,u.oneCell' =true:=by rw [i];exact dz (by simp [fh,Value.cells,Value.oneCell']) _
 have hz2:9+r.length=cap' *9:=by
  have:(fh.cells).size=9:=rfl;rw [i,g];simp only [Array.length_toList,size_zeroCells,this];omega
 have C: ∀ty,(Builtin.append_ #[66,66] ty #[.slice none 0 0,.slice (some ⟨I,J,none⟩) 1 p]).run Tryz.prog w= .ok (.slice (some ⟨w.heap.size,0,none⟩) 1 cap') (w.drew.alloc (.cells (xc++r).toArray 133)):=fun ty=>by
  have:=run_append_nil w 66 ty 133 i0 _ Tryz.underlying66 R T ⟨I,J,none⟩ 1 p xc (by rw [U,P]) (fun j u hj=>by rw [Addr.add_lit];exact hx j u hj) (by omega) (by omega) (by omega);rw [this,g,i];congr 3;apply Array.ext';simp
 have hcg:1≤cap' :=by rw [g];exact hge
 clear g i
 go_enter Tryz.func172,Tryz.ntmps172
 go_wp2_with (at_builtin;refine Lib.wpList_append_run _ rfl _ _ _ _ rfl _ _ rfl rfl _ _ (C _) ?_)
 go_ret
 have:=InsNewO.of (w:=w) (k:=1) (cs:=xc) hcg hz1 (by omega);exact this
def wx (w:World) (g cap k:Nat) (e:TypeId) (cs:List Value) (j:Ending) (w' :World):Prop:=j= .returned (.slice (some ⟨g,0,none⟩) k cap)∧BelowBut g w w' ∧ ∃i:Array Value,w'.heap[g]? =some (.cells i e (0,0))∧i.toList=cs
set_option maxHeartbeats 4000000 in
set_option maxRecDepth 100000 in
theorem xY (g cap n i:Nat) (e:TypeId) (p:Array Value) (xc:List Value) (xb xo C:Nat) (w:World) (hg:w.heap[g]? =some (.cells p e (0,0))) (hsz:p.size=cap*9) (hroom:n+1≤cap) (hi:i<n) (hone: ∀u∈p.toList,u.oneCell' =true) (hn63:n≤9000000000000000000)
  (hxl:xc.length=9) (hx: ∀(j:Nat) v,xc[j]? =some v→w.cell? ⟨xb,xo+j,none⟩=some v) (h1: ∀v∈xc,v.oneCell' =true) (hne:xb≠g)
  (hov: ∀lb cb,(callFunc 226 #[.slice (some ⟨xb,xo,none⟩) 1 C,.slice (some ⟨g,(i+1)*9,none⟩) lb cb]).run Tryz.prog w= .ok (.value (.bool false)) w):
  Calls Tryz.prog 172 #[.slice (some ⟨g,0,none⟩) n cap,.int .i64 i,.slice (some ⟨xb,xo,none⟩) 1 C] w
   (wx w g cap (n+1) e (p.toList.take (i*9)++xc++(p.toList.drop (i*9)).take ((n-i)*9)++p.toList.drop ((n+1)*9))):=by
 obtain ⟨i0,hi0,hz0,hzs,hzb⟩:=info_parts mJ;have hz2: ¬((i:Int)=(n:Int)):=by omega
 have hw1:IntKind.i64.wrap ((i:Int)+1)=(i:Int)+1:=by rw [IntKind.wrap_i64];omega
 have hw2:IntKind.i64.wrap ((n:Int)+1)=(n:Int)+1:=by rw [IntKind.wrap_i64];omega
 have T:p.toList.length=cap*9:=by simpa using hsz
 have hle1:(n+1)*9≤cap*9:=Nat.mul_le_mul_right _ hroom
 obtain ⟨r,I,J,P,hfin⟩: ∃r:Array Value,(∀ty U sc,(Builtin.copy_ #[66,66] ty #[.slice (some ⟨g,(i+1)*9,none⟩) (n-i) U,.slice (some ⟨g,i*9,none⟩) (n+1-i) sc]).run Tryz.prog w.drew= .ok (goInt ((n-i:Nat):Int)) (w.drew.setRow g r))∧
   ∃J:Array Value,(∀ty U,(Builtin.copy_ #[66,66] ty #[.slice (some ⟨g,i*9,none⟩) (n+1-i) U,.slice (some ⟨xb,xo,none⟩) 1 C]).run Tryz.prog (w.drew.setRow g r)= .ok (goInt ((1:Nat):Int)) ((w.drew.setRow g r).setRow g J))∧
    wx w g cap (n+1) e (p.toList.take (i*9)++xc++(p.toList.drop (i*9)).take ((n-i)*9)++p.toList.drop ((n+1)*9)) (.returned (.slice (some ⟨g,0,none⟩) (n+1) cap)) ((w.drew.setRow g r).setRow g J):=by
  have R:((p.toList.drop (i*9)).take ((n-i)*9)).length=(n-i)*9:=by
   rw [gA7,gA6,T];omega
  have I: ∀ty U sc,_:=fun ty U sc=>ci w.drew 66 66 ty 133 i0 Tryz.underlying66 hi0 g ((i+1)*9) (n-i) U e p hg ⟨g,i*9,none⟩ (n+1-i) sc (n-i) (by simp only [Nat.min_def];split<;>omega) ((p.toList.drop (i*9)).take ((n-i)*9)) (by rw [hzs];exact R) (fun j u hj=>by
   rw [Addr.add_lit,show w.drew.cell? ⟨g,i*9+j,none⟩=w.cell? ⟨g,i*9+j,none⟩ from rfl,cell_of_row w g _ p e (0,0) hg];rw [List.getElem?_take] at hj;split at hj
   ·rw [List.getElem?_drop] at hj
    simpa using hj
   ·cases hj) (fun u hu=>hone u (List.mem_of_mem_drop (List.mem_of_mem_take hu))) (by rw [R,hsz];omega)
  refine ⟨_,I,?_⟩;generalize hcur1:(p.toList.take ((i+1)*9)++(p.toList.drop (i*9)).take ((n-i)*9)++p.toList.drop ((i+1)*9+((p.toList.drop (i*9)).take ((n-i)*9)).length)).toArray=r;have hc1:r.toList=p.toList.take ((i+1)*9)++(p.toList.drop (i*9)).take ((n-i)*9)++p.toList.drop ((i+1)*9+((p.toList.drop (i*9)).take ((n-i)*9)).length):=by rw [←hcur1]
  have hc1l:r.size=cap*9:=by
   have:r.toList.length=cap*9:=by
    rw [hc1];simp only [gA5,gA7,gA6,T];omega
   simpa using this
  have hg1:(w.drew.setRow g r).heap[g]? =some (.cells r e (0,0)):=setRow_heap w.drew g p r e (0,0) hg
  have P: ∀ty U,_:=fun ty U=>ci (w.drew.setRow g r) 66 66 ty 133 i0 Tryz.underlying66 hi0 g (i*9) (n+1-i) U e r hg1 ⟨xb,xo,none⟩ 1 C 1 (by simp only [Nat.min_def];split<;>omega) xc (by rw [hzs];exact hxl) (fun j u hj=>by
   rw [Addr.add_lit,cell_setRow_other _ g _ ⟨xb,xo+j,none⟩ hne];exact hx j u hj) h1 (by rw [hxl,hc1l];omega)
  refine ⟨_,P,rfl,mF rfl rfl rfl _ (nU w.drew g p _ _ hg),_,setRow_heap (w.drew.setRow g r) g r _ e (0,0) hg1,?_⟩;have hl1:(p.toList.take ((i+1)*9)).length=(i+1)*9:=by rw [gA7,T];omega
  have e1:r.toList.take (i*9)=p.toList.take (i*9):=by
   rw [hc1,List.append_assoc,List.take_append_of_le_length (by omega),List.take_take];congr 1;omega
  have e2:r.toList.drop (i*9+xc.length)=(p.toList.drop (i*9)).take ((n-i)*9)++p.toList.drop ((n+1)*9):=by
   rw [hc1,hxl,List.append_assoc,show i*9+9=(p.toList.take ((i+1)*9)).length by omega,List.drop_left,R];congr 2;omega
  rw [e1,e2];simp
 have hn0:n-i≤n:=by omega
 clear T hle1 hsz hg
 go_enter Tryz.func172,Tryz.ntmps172
 go_wp2_with (simp only [hov])
 have mixed:Tryz.prog.follows .mixedOrders=true:=by kernel_rfl
 have hb1:(0:Int)≤(i:Int)+1:=by omega
 have hin:i≤n:=by omega
 have htn:((i:Int)+1).toNat=i+1:=by omega
 have hb2: ¬(cap=i+1):=by omega
 have hb3:(i:Int)≤(n:Int)+1:=by omega
 have hb4: ¬(cap=i):=by omega
 have hb5:i≤n+1:=by omega
 go_region_law_o (refine step_copy_runI rfl _ _ 66 66 rfl _ _ (by simp [Act.eval,Act.put]) (by simp [Act.eval,Act.put]) (I _ _ _) ?_)
 go_wp2_with (at_builtin;refine wpList_copy_runI _ rfl _ _ 66 66 rfl _ _ rfl rfl (P _ _) ?_)
 go_ret
 exact hfin
set_option maxHeartbeats 4000000 in
set_option maxRecDepth 100000 in
theorem AD (g cap n i:Nat) (e:TypeId) (p:Array Value) (xc:List Value) (xb xo R:Nat) (w:World) (hg:w.heap[g]? =some (.cells p e (0,0))) (hsz:p.size=cap*9) (hnc:n≤cap) (hroom:cap<n+1) (hb:(n+1)*136≤140737488355328) (hi:i<n) (hone: ∀u∈p.toList,u.oneCell' =true)
  (C:xc.length=9) (hx: ∀(j:Nat) v,xc[j]? =some v→w.cell? ⟨xb,xo+j,none⟩=some v) (h1: ∀v∈xc,v.oneCell' =true):
  Calls Tryz.prog 172 #[.slice (some ⟨g,0,none⟩) n cap,.int .i64 i,.slice (some ⟨xb,xo,none⟩) 1 R] w
   (InsNewO w (n+1) (p.toList.take (i*9)++xc++(p.toList.drop (i*9)).take ((n-i)*9))):=by
 obtain ⟨i0,hi0,hz0,hzs,hzb⟩:=info_parts mJ;have hz2: ¬((i:Int)=(n:Int)):=by omega
 have hz3:(cap:Int)<(n:Int)+1:=by omega
 have hcl:p.toList.length=cap*9:=by simpa using hsz
 have hle1:n*9≤cap*9:=Nat.mul_le_mul_right _ hnc;have hge:=grownCap_ge w (n+1) cap 133;have hgw:g<w.heap.size:=(gC0 hg).1
 obtain ⟨G,hGn,W1,W2,W3,I,hA,hB,hfin⟩: ∃G,n+1≤G∧ ∃W1 W2 W3:World,(∀ty,(Builtin.append_ #[66,3] ty #[.slice (some ⟨g,0,none⟩) i cap,.int .i64 ((n:Int)+1-(i:Int))]).run Tryz.prog w= .ok (.slice (some ⟨w.heap.size,0,none⟩) (n+1) G) W1)∧
   (∀ty dc,(Builtin.copy_ #[66,66] ty #[.slice (some ⟨w.heap.size,i*9,none⟩) (n+1-i) dc,.slice (some ⟨xb,xo,none⟩) 1 R]).run Tryz.prog W1= .ok (goInt ((1:Nat):Int)) W2)∧
   (∀ty dc sc,(Builtin.copy_ #[66,66] ty #[.slice (some ⟨w.heap.size,(i+1)*9,none⟩) (n-i) dc,.slice (some ⟨g,i*9,none⟩) (n-i) sc]).run Tryz.prog W2.drew= .ok (goInt ((n-i:Nat):Int)) W3)∧
   InsNewO w (n+1) (p.toList.take (i*9)++xc++(p.toList.drop (i*9)).take ((n-i)*9)) (.returned (.slice (some ⟨w.heap.size,0,none⟩) (n+1) G)) W3:=by
  have hold:(Builtin.firstCells i0.size i (.slice (some ⟨g,0,none⟩) i cap)).run Tryz.prog w.drew= .ok (p.toList.take (i*9)).toArray w.drew:=by
   rw [hzs]
   exact run_firstCells_some w.drew 9 i ⟨g,0,none⟩ i cap (p.toList.take (i*9)) (by rw [gA7];omega) (fun j v P=>by
    rw [Addr.add_lit,Nat.zero_add,show w.drew.cell? ⟨g,j,none⟩=w.cell? ⟨g,j,none⟩ from rfl,cell_of_row w g _ p e (0,0) hg];rw [List.getElem?_take] at P;split at P
    ·simpa using P
    ·cases P)
  have hkk:(n:Int)+1-(i:Int)=((n+1-i:Nat):Int):=by omega
  have hik:i+(n+1-i)=n+1:=by omega
  have I: ∀ty,_:=fun ty=>Lib.run_append_grow_zeros w 66 3 ty 133 i0 _ .i64 .i64 Tryz.underlying66 Tryz.underlying3 hi0 hz0 (some ⟨g,0,none⟩) i cap (p.toList.take (i*9)) hold (n+1-i) (by omega) (by omega) (by omega) (by omega) (by rw [hzb];omega) (by rw [hzb,hik];exact growslice_fits hroom hb)
  simp only [hik] at I
  have hzl: ∀k,(Builtin.zeroCells fh.cells k).toList.length=k*9:=fun k=>by
   have:(fh.cells).size=9:=rfl;simp only [Array.length_toList,size_zeroCells,this]
  have hzo: ∀k,∀u∈(Builtin.zeroCells fh.cells k).toList,u.oneCell' =true:=fun k=>dz (by simp [fh,Value.cells,Value.oneCell']) k
  generalize grownCap w (n+1) cap 133=G at*;generalize hZ1:Builtin.zeroCells fh.cells (n+1-i)=Z1 at I;generalize hZ2:Builtin.zeroCells fh.cells (G-(n+1))=Z2 at I;have l1:Z1.toList.length=(n+1-i)*9:=by rw [←hZ1];exact hzl _
  have l2:Z2.toList.length=(G-(n+1))*9:=by rw [←hZ2];exact hzl _
  have o2: ∀u∈Z2.toList,u.oneCell' =true:=by rw [←hZ2];exact hzo _
  have lt:(p.toList.take (i*9)).length=i*9:=by rw [gA7];omega
  generalize hROW:(p.toList.take (i*9)).toArray++Z1++Z2=r at I;have hRl:r.toList=p.toList.take (i*9)++Z1.toList++Z2.toList:=by rw [←hROW];simp
  have hRs:r.size=G*9:=by
   have:r.toList.length=G*9:=by rw [hRl,gA5,gA5,lt,l1,l2];omega
   simpa using this
  have hN1:(w.drew.alloc (.cells r 133)).heap[w.heap.size]? =some (.cells r 133 (0,0)):=heap_alloc_new w.drew _
  have hW1c: ∀(b o:Nat) v,w.cell? ⟨b,o,none⟩=some v→(w.drew.alloc (.cells r 133)).cell? ⟨b,o,none⟩=some v:=fun b o v h=>by
   rw [World.cell?_alloc_lt w.drew _ _ (World.block_lt_of_cell? w.drew _ h)];exact h
  have hne: ∀(b o:Nat) v,w.cell? ⟨b,o,none⟩=some v→b≠w.heap.size:=fun b o v h e=>by
   have:=World.block_lt_of_cell? w _ h;simp only at this;omega
  have hA: ∀ty dc,_:=fun ty dc=>ci (w.drew.alloc (.cells r 133)) 66 66 ty 133 i0 Tryz.underlying66 hi0 w.heap.size (i*9) (n+1-i) dc 133 r hN1 ⟨xb,xo,none⟩ 1 R 1 (by simp only [Nat.min_def];split<;>omega) xc (by rw [hzs];exact C) (fun j u P=>by
   rw [Addr.add_lit];exact hW1c _ _ _ (hx j u P)) h1 (by rw [C,hRs];omega)
  generalize hRA:(r.toList.take (i*9)++xc++r.toList.drop (i*9+xc.length)).toArray=J at hA
  have T:J.toList=p.toList.take (i*9)++xc++r.toList.drop (i*9+9):=by
   rw [←hRA,hRl,List.append_assoc (p.toList.take (i*9)),List.take_append_of_le_length (by omega),List.take_of_length_le (by omega),C]
  have hRAs:J.size=G*9:=by
   have:J.toList.length=G*9:=by rw [T,gA5,gA5,lt,C,gA6];simp only [Array.length_toList,hRs];omega
   simpa using this
  have hN2:((w.drew.alloc (.cells r 133)).setRow w.heap.size J).heap[w.heap.size]? =some (.cells J 133 (0,0)):=setRow_heap _ _ r J 133 (0,0) hN1
  have U:((p.toList.drop (i*9)).take ((n-i)*9)).length=(n-i)*9:=by
   rw [gA7,gA6,hcl];omega
  have hB: ∀ty dc sc,_:=fun ty dc sc=>ci ((w.drew.alloc (.cells r 133)).setRow w.heap.size J).drew 66 66 ty 133 i0 Tryz.underlying66 hi0 w.heap.size ((i+1)*9) (n-i) dc 133 J hN2 ⟨g,i*9,none⟩ (n-i) sc (n-i) (by simp only [Nat.min_def];split<;>omega) ((p.toList.drop (i*9)).take ((n-i)*9)) (by rw [hzs];exact U) (fun j u P=>by
   have h2:w.cell? ⟨g,i*9+j,none⟩=some u:=by
    rw [cell_of_row w g _ p e (0,0) hg];rw [List.getElem?_take] at P;split at P
    ·rw [List.getElem?_drop] at P
     simpa using P
    ·cases P
   rw [Addr.add_lit];exact (cell_setRow_other (w.drew.alloc (.cells r 133)) w.heap.size J ⟨g,i*9+j,none⟩ (hne _ _ _ h2)).trans (hW1c _ _ _ h2)) (fun u hu=>hone u (List.mem_of_mem_drop (List.mem_of_mem_take hu))) (by rw [U,hRAs];omega)
  refine ⟨G,hge,_,_,_,(fun ty=>by rw [hkk];exact I ty),hA,hB,G,Z2.toList,hge,o2,by rw [l2];omega,rfl,_,rfl,?_,?_⟩
  ·refine Below.trans (b:=(w.drew.alloc (.cells r 133))) (((Below.refl _ _).drew).alloc (gA4 _) _) ?_
   exact ⟨rfl,rfl,rfl,by simp [World.setRow],fun k hk=>(setRow_other _ _ k _ (by omega)).trans (setRow_other _ _ k _ (by omega))⟩
  ·have h3:=setRow_heap ((w.drew.alloc (.cells r 133)).setRow w.heap.size J).drew w.heap.size J (J.toList.take ((i+1)*9)++(p.toList.drop (i*9)).take ((n-i)*9)++J.toList.drop ((i+1)*9+((p.toList.drop (i*9)).take ((n-i)*9)).length)).toArray 133 (0,0) hN2
   refine h3.trans ?_;congr 2
   have e1:J.toList.take ((i+1)*9)=p.toList.take (i*9)++xc:=by
    rw [T,List.take_append_of_le_length (by rw [gA5,lt,C];omega),List.take_of_length_le (by rw [gA5,lt,C];omega)]
   have e2:J.toList.drop ((i+1)*9+((p.toList.drop (i*9)).take ((n-i)*9)).length)=Z2.toList:=by
    rw [T,hRl,U];rw [show (i+1)*9+(n-i)*9=(p.toList.take (i*9)++xc).length+(n-i)*9 by rw [gA5,lt,C];omega,←List.drop_drop,List.drop_left,List.drop_drop];rw [show i*9+9+(n-i)*9=(p.toList.take (i*9)++Z1.toList).length by rw [gA5,lt,l1];omega,List.drop_left]
   rw [e1,e2]
 have hn0:n-i≤n:=by omega
 clear hcl hle1 hsz hg hge;have hw1:IntKind.i64.wrap ((i:Int)+1)=(i:Int)+1:=by rw [IntKind.wrap_i64];omega
 have hw2:IntKind.i64.wrap ((n:Int)+1)=(n:Int)+1:=by rw [IntKind.wrap_i64];omega
 have hw3:IntKind.i64.wrap ((n:Int)+1-i)=(n:Int)+1-i:=by rw [IntKind.wrap_i64];omega
 have mixed:Tryz.prog.follows .mixedOrders=true:=by kernel_rfl
 have hb1:(0:Int)≤(i:Int)+1:=by omega
 have hin:i≤n:=by omega
 have htn:((i:Int)+1).toNat=i+1:=by omega
 have hGi: ¬(G=i):=by omega
 have hGim: ¬(G=i+1):=by omega
 have hci: ¬(cap=i):=by omega
 have hb3:(i:Int)≤(n:Int)+1:=by omega
 have hb5:i≤n+1:=by omega
 have hb6:i≤cap:=by omega
 go_enter Tryz.func172,Tryz.ntmps172
 go_wp2_with (first
  |(at_builtin;refine Lib.wpList_append_run _ rfl _ _ _ _ rfl _ _ rfl rfl _ _ (I _) ?_)
  |(at_builtin;refine wpList_copy_runI _ rfl _ _ 66 66 rfl _ _ rfl rfl (hA _ _) ?_))
 go_region_law_o (refine step_copy_runI rfl _ _ 66 66 rfl _ _ (by simp [Act.eval,Act.put]) (by simp [Act.eval,Act.put]) (hB _ _ _) ?_)
 go_wp2
 go_ret
 exact hfin
theorem CC {σ:Sg} {rows:List (List AV)} {c:List AV} {g xc:List Value} {i:Nat} (hl: ∀c∈rows,c.length=9) (hi:i≤rows.length) (h:RelL σ (g.take (rows.length*9)) rows.flatten) (r:RelL σ xc c):
  RelL σ (g.take (i*9)++xc++(g.drop (i*9)).take ((rows.length-i)*9)) (rows.take i++c::rows.drop i).flatten:=by
 rw [List.flatten_append,List.flatten_cons,f8 i hl,ga i hl,←List.append_assoc];have j:=h.take (i*9);have p:=h.drop (i*9);rw [List.take_take,Nat.min_eq_left (by omega)] at j;rw [List.drop_take,show rows.length*9-i*9=(rows.length-i)*9 by omega] at p;exact (j.append r).append p
theorem CD {rows:List (List AV)} {c:List AV} {i:Nat} (hl: ∀c∈rows,c.length=9) (j:c.length=9) (hi:i≤rows.length):(rows.take i++c::rows.drop i).length=rows.length+1∧ ∀d∈rows.take i++c::rows.drop i,d.length=9:=by
 constructor
 ·simp;omega
 ·intro d g
  rcases gB5 g with g|g
  ·exact hl d (List.mem_of_mem_take g)
  ·rcases gB2 g with rfl|g
   ·exact j
   ·exact hl d (List.mem_of_mem_drop g)
abbrev InsPostO (σ:Sg) (w:World) (g:Nat) (rows' :List (List AV)) (e:Ending) (w' :World):Prop:= ∃σ' g' cap',e= .returned (.slice (some ⟨g',0,none⟩) rows'.length cap')∧Ext σ σ' w.heap.size∧Holds σ' w' ∧BelowBut g w w' ∧(g' =g∨w.heap.size≤g')∧FRowW σ' w' g' cap' 9 rows'
theorem yX {σ:Sg} {w w' :World} {g cap i:Nat} {e:TypeId} {rows:List (List AV)} {c:List AV} {p:Array Value} {xc:List Value} {e' :Ending} (hh:Holds σ w) (hsz:p.size=cap*9) (I:rows.length+1≤cap) (hl: ∀c∈rows,c.length=9) (hc:c.length=9) (hi:i≤rows.length)
  (h:RelL σ (p.toList.take (rows.length*9)) rows.flatten) (R: ∀u∈p.toList,u.oneCell' =true) (C: ∀j,σ g j=none) (hx:RelL σ xc c)
  (hs:wx w g cap (rows.length+1) e (p.toList.take (i*9)++xc++(p.toList.drop (i*9)).take ((rows.length-i)*9)++p.toList.drop ((rows.length+1)*9)) e' w'):InsPostO σ w g (rows.take i++c::rows.drop i) e' w' :=by
 obtain ⟨he,hb,J,hg',r⟩:=hs;obtain ⟨l1,l2⟩:=CD (c:=c) (i:=i) hl hc hi;have hr:=CC (xc:=xc) hl hi h hx;have hcl:p.toList.length=cap*9:=by simpa using hsz
 have hle:(rows.length+1)*9≤cap*9:=Nat.mul_le_mul_right _ I
 have T:(p.toList.take (i*9)++xc++(p.toList.drop (i*9)).take ((rows.length-i)*9)).length=(rows.length+1)*9:=by
  rw [hr.1,di l2,l1]
 refine ⟨σ,g,cap,by rw [he,l1],Ext.refl _ _,fun b q v hv=> ?_,hb,.inl rfl,e,J,hg',?_,by rw [l1];exact I,l2,?_,fun u P=> ?_,C⟩
 ·have h1:=hh _ _ _ hv
  have hne:b≠g:=fun e=>by rw [e,C] at hv;cases hv
  have U:=World.block_lt_of_cell? w _ h1;simp only at U;rw [←h1];unfold World.cell?;simp only;rw [hb.block b U hne]
 ·have:J.toList.length=cap*9:=by
   rw [r,gA5,T,gA6,hcl];omega
  simpa using this
 ·rw [l1,r,←T,List.take_left]
  exact hr
 ·rw [r] at P
  rcases gB5 P with P|P
  ·exact hr.one u P
  ·exact R u (List.mem_of_mem_drop P)
theorem CE {σ:Sg} {w w' :World} {k:Nat} {cs:List Value} {rows:List (List AV)} {P:Ending} (r:Holds σ w) (C:rows.length=k) (hl: ∀c∈rows,c.length=9) (hr:RelL σ cs rows.flatten) (I:InsNewO w k cs P w'):
  ∃σ' g cap,P= .returned (.slice (some ⟨g,0,none⟩) rows.length cap)∧Ext σ σ' w.heap.size∧Holds σ' w' ∧Below w.heap.size w w' ∧w.heap.size≤g∧FRowW σ' w' g cap 9 rows:=by
 obtain ⟨cap',zs,h1,T,h3,U,w0,hw,hb,hg⟩:=I;have J:cs.length=k*9:=by rw [hr.1,di hl,C]
 refine ⟨σ,w.heap.size,cap',by rw [U,C],Ext.refl _ _,fun b q v R=>(hb.cell (p:=⟨b,q,none⟩) (World.block_lt_of_cell? w _ (r _ _ _ R))).trans (r _ _ _ R),hb,gA4 _,133,_,by rw [hw];exact hg,?_,by omega,hl,?_,fun u i=> ?_,fun j=> ?_⟩
 ·simp only [List.size_toArray,gA5]
  omega
 ·rw [C,←J]
  simpa using hr
 ·rcases gB5 (by simpa using i) with i|i
  ·exact hr.one u i
  ·exact T u i
 ·cases I:σ w.heap.size j with
  |none=>rfl
  |some v=>
   have:=World.block_lt_of_cell? w _ (r _ _ _ I);simp at this
theorem CF {σ:Sg} {w:World} (R:Holds σ w) {vs:List Value} {i:Int} {c:List AV} (hr:RelPs σ vs [.int .i64 i,.lst .any 9 [c]]): ∃(g r C:Nat) (xc:List Value),vs= [.int .i64 i,.slice (some ⟨r,C,none⟩) 1 g]∧xc.length=9∧c.length=9∧RelL σ xc c∧(∀(j:Nat) v,xc[j]? =some v→w.cell? ⟨r,C+j,none⟩=some v)∧ ∃v,σ r C=some v:=by
 have hl:vs.length=2:=hr.1
 obtain ⟨v1,v2,rfl⟩: ∃a b,vs= [a,b]:=by
  rcases vs with _|⟨a,_|⟨b,_|⟨d,l⟩⟩⟩<;>simp at hl
  exact ⟨a,b,rfl⟩
 have T:Rel1 σ v1 (.int .i64 i):=hr.2 0 v1 _ rfl rfl;have U:Rel1 σ v2 (.lst .any 9 [c]):=hr.2 1 v2 _ rfl rfl;cases T;obtain ⟨A,g,r,C,xc,rfl,P,hA,hsz,I,hrel,p⟩:=cd U;have:=hA (by simp);subst this;have hc:=hsz c (by simp);have J:xc.length=9:=by simpa using I
 refine ⟨g,r,C,xc,rfl,J,hc,by simpa using hrel,fun j v hv=>R _ _ _ (p j v hv),?_⟩;have h0:xc[0]? =some xc[0]:=gA1 (by omega);exact ⟨_,p 0 _ h0⟩
theorem EN (c:List AV):MN Tryz.prog 172 [.int .i64 0,.lst .any 9 [c]] 9 [c]:=by
 refine ⟨by kernel_rfl,fun σ w vs r hr hg=> ?_⟩;obtain ⟨g,C,I,xc,rfl,i,J,j,p,_⟩:=CF r hr;exact (CB xc C I g w i p).mono fun e w' h=>CE r rfl (by simpa using J) (by simpa using j) h
theorem EO (rows:List (List AV)) (i:Nat) (c:List AV) (hi:i≤rows.length) (hb:(rows.length+1)*136≤140737488355328):
  MR Tryz.prog 172 9 rows [.int .i64 i,.lst .any 9 [c]] (rows.take i++c::rows.drop i):=by
 refine ⟨by kernel_rfl,fun σ w g cap vs hh hF hr hg=> ?_⟩;obtain ⟨C,xb,xo,xc,rfl,T,hc,R,U,xv,hxs⟩:=CF hh hr;obtain ⟨e,p,hg,hsz,hcap,hl,hrel,P,J⟩:=hF;have hcl:p.toList.length=cap*9:=by simpa using hsz
 obtain ⟨l1,l2⟩:=CD (c:=c) (i:=i) hl hc hi;have hr' :=CC (xc:=xc) hl hi hrel R;have hgw:g<w.heap.size:=(gC0 hg).1
 have I: ∀e' w',InsNewO w (rows.length+1) (p.toList.take (i*9)++xc++(p.toList.drop (i*9)).take ((rows.length-i)*9)) e' w' →InsPostO σ w g (rows.take i++c::rows.drop i) e' w' :=fun e' w' h=>by
  obtain ⟨σ',g',cap',k1,k2,k3,k4,k5,k6⟩:=CE hh l1 l2 hr' h;exact ⟨σ',g',cap',k1,k2,k3,⟨k4.os,k4.tape,k4.output,k4.size,fun k hk _=>k4.block k hk⟩,.inr k5,k6⟩
 by_cases r:rows.length+1≤cap
 ·have hle:(rows.length+1)*9≤cap*9:=Nat.mul_le_mul_right _ r
  by_cases hin:i=rows.length
  ·subst hin
   refine (rn g cap rows.length e p xc xb xo C w hg hsz r T U R.one).mono fun e' w' h=> ?_
   obtain ⟨h1,rfl⟩:=h;refine yX (i:=rows.length) hh hsz r hl hc (gA4 _) hrel P J R (e:=e) ⟨h1,mF rfl rfl rfl _ rfl,_,setRow_heap w g p _ e (0,0) hg,?_⟩
   ·rw [Nat.sub_self,Nat.zero_mul,List.take_zero,List.append_nil,gC3]
  ·have hne:xb≠g:=fun e=>by rw [e,J] at hxs;cases hxs
   obtain ⟨tA,kA,hsa⟩:=nT (hh _ _ _ hxs);obtain ⟨kB,hkB⟩: ∃kB,p.size=kB+1:=⟨p.size-1,by omega⟩
   have hsb:w.shape? g=some (e,kB+1):=by unfold World.shape?;rw [hg,←hkB]
   have hov: ∀lb cb,(callFunc 226 #[.slice (some ⟨xb,xo,none⟩) 1 C,.slice (some ⟨g,(i+1)*9,none⟩) lb cb]).run Tryz.prog w= .ok (.value (.bool false)) w:=fun lb cb=>by
    rw [run_callFunc_extern Tryz.func226 (by kernel_rfl) (by kernel_rfl) (by kernel_rfl) (e:=Extern.SlicesOverlaps.overlaps #[66,66] #[4]) (by kernel_rfl),
     je w 66 4 133 Tryz.underlying66 9 (fun w=>by obtain ⟨i0,hi0,hz0,hzs,hzb⟩:=info_parts mJ;simp [sizeOf,typeInfo,hi0,hzs]) ⟨xb,xo,none⟩ ⟨g,(i+1)*9,none⟩ 1 C lb cb hne tA e kA kB hsa hsb (by unfold World.frozen?;rw [hg];simp) (by unfold World.frozen?;rw [hg];simp)]
    rfl
   exact (xY g cap rows.length i e p xc xb xo C w hg hsz r (by omega) P (by omega) T U R.one hne hov).mono fun e' w' h=>yX hh hsz r hl hc hi hrel P J R h
 ·by_cases hin:i=rows.length
  ·subst hin
   refine (rp g cap rows.length (p.toList.take (rows.length*9)) xc xb xo C w (by omega) hb (by rw [gA7];have:rows.length*9≤cap*9:=Nat.mul_le_mul_right _ hcap;omega) (fun j v hj=> ?_) T U).mono fun e' w' h=>I e' w' ?_
   ·rw [cell_of_row w g _ p e (0,0) hg]
    rw [List.getElem?_take] at hj;split at hj
    ·simpa using hj
    ·cases hj
   ·rw [Nat.sub_self,Nat.zero_mul,List.take_zero,List.append_nil]
    exact h
  ·exact (AD g cap rows.length i e p xc xb xo C w hg hsz hcap (by omega) hb (by omega) P T U R.one).mono I
end
end Go.Proofs.YtbgflifmanjpjaaGreatDoor
