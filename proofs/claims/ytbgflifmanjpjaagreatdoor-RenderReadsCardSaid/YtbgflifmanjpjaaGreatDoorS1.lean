/- Part 1. -/
import Derived.KernelRfl
import Derived.WalkKit
import Derived.Deep.Draws
import Derived.Lib.Hide
import Derived.Laws.CopyOwn
import Derived.OwnWalk
import Derived.Maps.AppendAt
set_option linter.unusedSimpArgs false
set_option linter.unusedVariables false
namespace Go.Proofs.YtbgflifmanjpjaaGreatDoor
theorem gC0 {α:Type _} {l:Array α} {i:Nat} {a:α} (h:l[i]? =some a): ∃h:i<l.size,l[i]=a:=Array.getElem?_eq_some_iff.1 h
theorem gC1 {α:Type _} {l m:List α} {n:Nat} (h:n<l.length):(l++m)[n]? =l[n]? :=List.getElem?_append_left h
theorem gC2 {α:Type _} {l m:List α} {n:Nat} (h:l.length≤n):(l++m)[n]? =m[n-l.length]? :=List.getElem?_append_right h
theorem gC3 (n m k:Nat):(n+m)*k=n*k+m*k:=Nat.add_mul n m k
theorem aI {a b:Prop} (h:a) (g:b):a∧b:=⟨h,g⟩
theorem gA0 {α:Type _} {l:List α} {i:Nat} {a:α} (h:l[i]? =some a): ∃h:i<l.length,l[i]=a:=List.getElem?_eq_some_iff.1 h
theorem gA1 {α:Type _} {l:List α} {i:Nat} (h:i<l.length):l[i]? =some l[i]:=List.getElem?_eq_getElem h
theorem gA2 {α:Type _} {l:List α} {i:Nat} {a:α} (h:l[i]? =some a):a∈l:=List.mem_of_getElem? h
theorem gA3 {α:Type _} {a:α} {l:List α}:(a::l).length=l.length+1:=List.length_cons
theorem gA4 (n:Nat):n≤n:=Nat.le_refl n
theorem gA5 {α:Type _} {l m:List α}:(l++m).length=l.length+m.length:=List.length_append
theorem gA6 {α:Type _} {i:Nat} {l:List α}:(l.drop i).length=l.length-i:=List.length_drop
theorem gA7 {α:Type _} {i:Nat} {l:List α}:(l.take i).length=min i l.length:=List.length_take
theorem gA8 {α β:Type _} {f:α→β} {l:List α} {i:Nat}:(l.map f)[i]? =Option.map f l[i]? :=List.getElem?_map
theorem gA9 (a b:Bool):((a&&b)=true)=(a=true∧b=true):=Bool.and_eq_true a b
theorem gB0 {p:Prop} [Decidable p]:(decide p=true)=p:=decide_eq_true_eq
theorem gB1 {α:Type _} {a b:α} (h:a∈ [b]):a=b:=List.mem_singleton.1 h
theorem gB2 {α:Type _} {a b:α} {l:List α} (h:a∈b::l):a=b∨a∈l:=List.mem_cons.1 h
theorem gB3 {p:Prop} [Decidable p] (h:decide p=true):p:=of_decide_eq_true h
theorem gB4 {p:Prop} [Decidable p] (h:decide p=false): ¬p:=of_decide_eq_false h
theorem gB5 {α:Type _} {a:α} {l m:List α} (h:a∈l++m):a∈l∨a∈m:=List.mem_append.1 h
theorem gB6 {α:Type _} {l:List α} {i:Nat} (h:l.length≤i):l.drop i= []:=List.drop_eq_nil_of_le h
theorem gB7 {a b c:Nat} (h:a≤b) (g:b≤c):a≤c:=Nat.le_trans h g
theorem gB8 (n:Nat):0≤n:=Nat.zero_le n
theorem gB9 {α:Type _} (a b:α):(some a=some b)=(a=b):=Option.some.injEq a b
theorem kk {p:Prop} (h:p:=by kernel_rfl):p:=h
open Go.RowKit
def Blk (w:World) (g:Nat) (t:TypeId) (cs:Array Value):Prop:=w.heap[g]? =some (.cells cs t (0,0))
section
variable {w w' :World} {g:Nat} {t:TypeId} {cs:Array Value}
theorem Blk.lt (h:Blk w g t cs):g<w.heap.size:=(gC0 h).1
theorem Blk.new (w:World) (t:TypeId) (cs:Array Value) {k:Nat} (g:w.heap.size=k):Blk (w.alloc (.cells cs t)) k t cs:=by subst g;exact heap_alloc_new w _
theorem Blk.below {B:Nat} (h:Blk w g t cs) (hb:Below B w w') (hg:g<B):Blk w' g t cs:=(hb.block g hg).trans h
theorem Blk.set (h:Blk w g t cs) (vs:Array Value):Blk (w.setRow g vs) g t vs:=setRow_heap w g cs vs t (0,0) h
end
section
variable {P:Program}
theorem ql (w:World) (g:Nat) (t ty:TypeId) (cs vs:Array Value) (hg:w.heap[g]? =some (.cells cs t (0,0))) (r:vs.size=cs.size) (C: ∀u∈vs.toList,u.oneCell' =true)
  (hi:(P.info? ty).map (·.size)=some vs.size):(storeVar ty ⟨g,0,none⟩ (.agg vs)).run P w= .ok () (w.setRow g vs):=by
 have h:=run_storeCells_at P g 0 t vs.toList 0 cs w hg (by simp [r]) C;cases j:P.info? ty with
 |none=>simp [j] at hi
 |some i=>
  have I:i.size=vs.size:=by simpa [j] using hi
  have e:(cs.toList.take (0+0)++vs.toList++cs.toList.drop (0+0+vs.toList.length)).toArray=vs:=by
   rw [gB6 (by simp [r])];simp
  rw [e] at h;have p:(Value.agg vs).cells=vs:=rfl;simp [storeVar,sizeOf,typeInfo,j,I,p,h]
theorem qm {i:Array Oper} {rest:List Oper} {tmps:Array Value} {r:List Deferred} {w:World} {Q:Exit→Act→World→Prop} {d:Option Tmp} {C:TypeId} {ps:String} {I:Array Edge}
  (p q:Tmp) (ty:TypeId) (g:Nat) (t:TypeId) (cs vs:Array Value) (J:tmps.getD p undef= .pointer (some ⟨g,0,none⟩)) (R:tmps.getD q undef= .agg vs) (hg:Blk w g t cs) (T:vs.size=cs.size) (U: ∀u∈vs.toList,u.oneCell' =true)
  (hi:(P.info? ty).map (·.size)=some vs.size)
  (h:wpList P i Q rest (({tmps:=tmps,defers:=r}:Act).put d undef) (w.setRow g vs)):
  wpList P i Q ({dst:=d,op:= .store ty (.tmp p) (.tmp q),type:=C,pos:=ps,after:=I,guard:=none}::rest) {tmps:=tmps,defers:=r} w:=by
 refine wpList_plain rfl fun K hK=> ?_
 have j:=ql (P:=P) w g t ty cs vs hg T U hi;have e1:({tmps:=tmps,defers:=r}:Act).eval (.tmp p)= .pointer (some ⟨g,0,none⟩):=J;have e2:({tmps:=tmps,defers:=r}:Act).eval (.tmp q)= .agg vs:=R;unfold Oper.wp execOp;simp only [e1,e2,Instr.storeAt,Instr.sureAddr,Sem.run_bind,Sem.run_pure,Result.andThen_ok,j];exact hK _ _ h
theorem lC {fn:Func} {p u:Tmp} {ty:TypeId} (h:fn.results= #[.cell p ty,.tmp u]) (tmps:Array Value) (w:World) (g:Nat) (t:TypeId) (cs:Array Value) (d:TypeDesc)
  (j:tmps.getD p undef= .pointer (some ⟨g,0,none⟩)) (hg:Blk w g t cs)
  (r:P.underlying ty=some d) (C:(match d with| .struct _| .array _ _=>true|_=>false)=true) (hi:(P.info? ty).map (·.size)=some cs.size):
  (results fn tmps).run P w= .ok (.tuple #[.agg cs,tmps.getD u undef]) w:=by
 have i:tmps[p]?.getD undef= .pointer (some ⟨g,0,none⟩):=by simpa using j
 rw [results_cell_tmp h];simp [i,asAddr,run_loadVar_row w g t ty cs (0,0) d hg r C hi]
end
section
variable {P:Program}
end
def Mu:List Value:= [.int .u8 0,.int .u8 1,.int .u8 28,.int .u8 2,.int .u8 29,.int .u8 14,.int .u8 24,.int .u8 3,.int .u8 30,.int .u8 22,.int .u8 20,.int .u8 15,.int .u8 25,.int .u8 17,.int .u8 4,.int .u8 8,.int .u8 31,.int .u8 27,.int .u8 13,.int .u8 23,.int .u8 21,.int .u8 19,.int .u8 16,.int .u8 7,.int .u8 26,.int .u8 12,.int .u8 18,.int .u8 6,.int .u8 11,.int .u8 5,.int .u8 10,.int .u8 9]
def Mv:List Value:= [.int .u8 0,.int .u8 1,.int .u8 56,.int .u8 2,.int .u8 57,.int .u8 49,.int .u8 28,.int .u8 3,.int .u8 61,.int .u8 58,.int .u8 42,.int .u8 50,.int .u8 38,.int .u8 29,.int .u8 17,.int .u8 4,.int .u8 62,.int .u8 47,.int .u8 59,.int .u8 36,.int .u8 45,.int .u8 43,.int .u8 51,.int .u8 22,.int .u8 53,.int .u8 39,.int .u8 33,.int .u8 30,.int .u8 24,.int .u8 18,.int .u8 12,.int .u8 5,.int .u8 63,.int .u8 55,.int .u8 48,.int .u8 27,.int .u8 60,.int .u8 41,.int .u8 37,.int .u8 16,.int .u8 46,.int .u8 35,.int .u8 44,.int .u8 21,.int .u8 52,.int .u8 32,.int .u8 23,.int .u8 11,.int .u8 54,.int .u8 26,.int .u8 40,.int .u8 15,.int .u8 34,.int .u8 20,.int .u8 31,.int .u8 10,.int .u8 25,.int .u8 14,.int .u8 19,.int .u8 9,.int .u8 13,.int .u8 8,.int .u8 7,.int .u8 6]
def Mw:List Value:= [.int .u64 1,.int .u64 10,.int .u64 100,.int .u64 1000,.int .u64 10000,.int .u64 100000,.int .u64 1000000,.int .u64 10000000,.int .u64 100000000,.int .u64 1000000000,.int .u64 10000000000,.int .u64 100000000000,.int .u64 1000000000000,.int .u64 10000000000000,.int .u64 100000000000000,.int .u64 1000000000000000,.int .u64 10000000000000000,.int .u64 100000000000000000,.int .u64 1000000000000000000,.int .u64 10000000000000000000]
def Mx:List Value:= [.string ⟨#[78,97,109,101,115,112,97,99,101]⟩,.string ⟨#[83,101,99,114,101,116]⟩,.string ⟨#[67,111,110,102,105,103,77,97,112]⟩,.string ⟨#[86,111,108,117,109,101]⟩,.string ⟨#[65,99,99,111,117,110,116]⟩,.string ⟨#[82,111,108,101]⟩,.string ⟨#[83,101,114,118,105,99,101]⟩,.string ⟨#[68,101,112,108,111,121,109,101,110,116]⟩,.string ⟨#[74,111,98]⟩,.string ⟨#[73,110,103,114,101,115,115]⟩]
def My:List Value:= [.string ⟨#[97,100,100]⟩,.string ⟨#[97,110,100]⟩,.string ⟨#[100,101,102,97,117,108,116]⟩,.string ⟨#[100,105,99,116]⟩,.string ⟨#[101,113]⟩,.string ⟨#[103,101,116]⟩,.string ⟨#[104,97,115]⟩,.string ⟨#[105,110,100,101,110,116]⟩,.string ⟨#[105,110,116]⟩,.string ⟨#[106,111,105,110]⟩,.string ⟨#[107,101,121,115]⟩,.string ⟨#[108,101,110]⟩,.string ⟨#[108,105,115,116]⟩,.string ⟨#[108,111,119,101,114]⟩,.string ⟨#[108,116]⟩,.string ⟨#[109,117,108]⟩,.string ⟨#[110,101]⟩,.string ⟨#[110,105,110,100,101,110,116]⟩,.string ⟨#[110,111,116]⟩,.string ⟨#[111,114]⟩,.string ⟨#[112,114,105,110,116]⟩,.string ⟨#[113,117,111,116,101]⟩,.string ⟨#[114,101,113,117,105,114,101,100]⟩,.string ⟨#[115,117,98]⟩,.string ⟨#[116,101,114,110,97,114,121]⟩,.string ⟨#[116,111,83,116,114,105,110,103]⟩,.string ⟨#[116,111,89,97,109,108]⟩,.string ⟨#[116,114,105,109]⟩,.string ⟨#[117,112,112,101,114]⟩]
abbrev gv_deBruijn32tab:List Value:=Mu
abbrev gi_deBruijn32tab:Nat:=8
abbrev gv_deBruijn64tab:List Value:=Mv
abbrev gi_deBruijn64tab:Nat:=9
abbrev gv_uint64pow10:List Value:=Mw
abbrev gi_uint64pow10:Nat:=7
abbrev gv_order:List Value:=Mx
abbrev gi_order:Nat:=1
abbrev gv_names:List Value:=My
abbrev gi_names:Nat:=4
def Bj:List (Nat×List Value):= [(8,Mu),(9,Mv),(7,Mw),(1,Mx),(4,My)]
def yx:List Nat:= [6,5]
def Bk:List Nat:= [0]
abbrev gi_ErrRange:Nat:=6
abbrev gi_ErrSyntax:Nat:=5
def bT:TypeId:=120
structure GW (w:World):Prop where
 cells: ∀x∈Bj,∃ty fr,w.heap[x.1]? =some (.cells x.2.toArray ty fr)
 ifc: ∀g∈yx,∃ev ty fr,w.heap[g]? =some (.cells #[ev] ty fr)∧(ev= .nilIface∨ ∃te pe,ev= .iface te pe)
 num: ∀g∈Bk,∃m,w.cell? ⟨g,0,none⟩=some (.int .i64 m)
theorem GW.below {w w' :World} (h:GW w) (hb:Below w.heap.size w w'):GW w' where
 cells:=fun x j=>by
  obtain ⟨ty,fr,i⟩:=h.cells x j;exact ⟨ty,fr,(hb.block _ (gC0 i).1).trans i⟩
 ifc:=fun g j=>by
  obtain ⟨ev,ty,fr,i,r⟩:=h.ifc g j;exact ⟨ev,ty,fr,(hb.block _ (gC0 i).1).trans i,r⟩
 num:=fun g j=>by
  obtain ⟨m,i⟩:=h.num g j;exact ⟨m,(hb.cell (p:=⟨g,0,none⟩) (World.block_lt_of_cell? w _ i)).trans i⟩
theorem GW.cell {w:World} (h:GW w) {g:Nat} {l:List Value} (i:(g,l)∈Bj) (j:Nat):w.cell? ⟨g,j,none⟩=l[j]? :=by
 obtain ⟨ty,fr,p⟩:=h.cells _ i;rw [cell_of_row w g j l.toArray ty fr p];simp
theorem GW.ifc_cell {w:World} (h:GW w) {g:Nat} (i:g∈yx): ∃ev,w.cell? ⟨g,0,none⟩=some ev∧(ev= .nilIface∨ ∃te pe,ev= .iface te pe):=by
 obtain ⟨ev,ty,fr,j,p⟩:=h.ifc g i;exact ⟨ev,by rw [cell_of_row w g 0 #[ev] ty fr j];rfl,p⟩
end Go.Proofs.YtbgflifmanjpjaaGreatDoor
