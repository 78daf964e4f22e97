/- Part 2. -/
import Derived.Test.YtbgflifmanjpjaaGreatDoorS1
import Derived.Laws.CopyOwn
import Derived.OwnWalk
import Derived.Maps.AppendAt
set_option linter.unusedSimpArgs false
set_option linter.unusedVariables false
namespace Go.Proofs.YtbgflifmanjpjaaGreatDoor
open Go.RowKit
def Blk (w:World) (g:Nat) (t:TypeId) (cs:Array Value):Prop:=w.heap[g]? =some (.cells cs t (0,0))
section
variable {w w' :World} {g:Nat} {t:TypeId} {cs:Array Value}
theorem Blk.lt (h:Blk w g t cs):g<w.heap.size:=(gC0 h).1
theorem Blk.new (w:World) (t:TypeId) (cs:Array Value) {k:Nat} (g:w.heap.size=k):Blk (w.alloc (.cells cs t)) k t cs:=by subst g;exact heap_alloc_new w _
theorem Blk.below {B:Nat} (h:Blk w g t cs) (hb:Below B w w') (hg:g<B):Blk w' g t cs:=(hb.block g hg).trans h
theorem Blk.set (h:Blk w g t cs) (vs:Array Value):Blk (w.setRow g vs) g t vs:=setRow_heap w g cs vs t (0,0) h
end
section
variable {P:Program}
theorem pL (w:World) (g:Nat) (t ty:TypeId) (cs vs:Array Value) (hg:w.heap[g]? =some (.cells cs t (0,0))) (r:vs.size=cs.size) (C: ∀u∈vs.toList,u.oneCell' =true)
  (hi:(P.info? ty).map (·.size)=some vs.size):(storeVar ty ⟨g,0,none⟩ (.agg vs)).run P w= .ok () (w.setRow g vs):=by
 have h:=run_storeCells_at P g 0 t vs.toList 0 cs w hg (by simp [r]) C;cases j:P.info? ty with
 |none=>simp [j] at hi
 |some i=>
  have I:i.size=vs.size:=by simpa [j] using hi
  have e:(cs.toList.take (0+0)++vs.toList++cs.toList.drop (0+0+vs.toList.length)).toArray=vs:=by
   rw [gB6 (by simp [r])];simp
  rw [e] at h;have p:(Value.agg vs).cells=vs:=rfl;simp [storeVar,sizeOf,typeInfo,j,I,p,h]
theorem pM {i:Array Oper} {rest:List Oper} {tmps:Array Value} {r:List Deferred} {w:World} {Q:Exit→Act→World→Prop} {d:Option Tmp} {C:TypeId} {ps:String} {I:Array Edge}
  (p q:Tmp) (ty:TypeId) (g:Nat) (t:TypeId) (cs vs:Array Value) (J:tmps.getD p undef= .pointer (some ⟨g,0,none⟩)) (R:tmps.getD q undef= .agg vs) (hg:Blk w g t cs) (T:vs.size=cs.size) (U: ∀u∈vs.toList,u.oneCell' =true)
  (hi:(P.info? ty).map (·.size)=some vs.size)
  (h:wpList P i Q rest (({tmps:=tmps,defers:=r}:Act).put d undef) (w.setRow g vs)):
  wpList P i Q ({dst:=d,op:= .store ty (.tmp p) (.tmp q),type:=C,pos:=ps,after:=I,guard:=none}::rest) {tmps:=tmps,defers:=r} w:=by
 refine wpList_plain rfl fun K hK=> ?_
 have j:=pL (P:=P) w g t ty cs vs hg T U hi;have e1:({tmps:=tmps,defers:=r}:Act).eval (.tmp p)= .pointer (some ⟨g,0,none⟩):=J;have e2:({tmps:=tmps,defers:=r}:Act).eval (.tmp q)= .agg vs:=R;unfold Oper.wp execOp;simp only [e1,e2,Instr.storeAt,Instr.sureAddr,Sem.run_bind,Sem.run_pure,Result.andThen_ok,j];exact hK _ _ h
theorem kT {fn:Func} {p u:Tmp} {ty:TypeId} (h:fn.results= #[.cell p ty,.tmp u]) (tmps:Array Value) (w:World) (g:Nat) (t:TypeId) (cs:Array Value) (d:TypeDesc)
  (j:tmps.getD p undef= .pointer (some ⟨g,0,none⟩)) (hg:Blk w g t cs)
  (r:P.underlying ty=some d) (C:(match d with| .struct _| .array _ _=>true|_=>false)=true) (hi:(P.info? ty).map (·.size)=some cs.size):
  (results fn tmps).run P w= .ok (.tuple #[.agg cs,tmps.getD u undef]) w:=by
 have i:tmps[p]?.getD undef= .pointer (some ⟨g,0,none⟩):=by simpa using j
 rw [results_cell_tmp h];simp [i,asAddr,run_loadVar_row w g t ty cs (0,0) d hg r C hi]
end
section
variable {P:Program}
end
def Ku:List Value:= [.int .u8 0,.int .u8 1,.int .u8 28,.int .u8 2,.int .u8 29,.int .u8 14,.int .u8 24,.int .u8 3,.int .u8 30,.int .u8 22,.int .u8 20,.int .u8 15,.int .u8 25,.int .u8 17,.int .u8 4,.int .u8 8,.int .u8 31,.int .u8 27,.int .u8 13,.int .u8 23,.int .u8 21,.int .u8 19,.int .u8 16,.int .u8 7,.int .u8 26,.int .u8 12,.int .u8 18,.int .u8 6,.int .u8 11,.int .u8 5,.int .u8 10,.int .u8 9]
def Kv:List Value:= [.int .u8 0,.int .u8 1,.int .u8 56,.int .u8 2,.int .u8 57,.int .u8 49,.int .u8 28,.int .u8 3,.int .u8 61,.int .u8 58,.int .u8 42,.int .u8 50,.int .u8 38,.int .u8 29,.int .u8 17,.int .u8 4,.int .u8 62,.int .u8 47,.int .u8 59,.int .u8 36,.int .u8 45,.int .u8 43,.int .u8 51,.int .u8 22,.int .u8 53,.int .u8 39,.int .u8 33,.int .u8 30,.int .u8 24,.int .u8 18,.int .u8 12,.int .u8 5,.int .u8 63,.int .u8 55,.int .u8 48,.int .u8 27,.int .u8 60,.int .u8 41,.int .u8 37,.int .u8 16,.int .u8 46,.int .u8 35,.int .u8 44,.int .u8 21,.int .u8 52,.int .u8 32,.int .u8 23,.int .u8 11,.int .u8 54,.int .u8 26,.int .u8 40,.int .u8 15,.int .u8 34,.int .u8 20,.int .u8 31,.int .u8 10,.int .u8 25,.int .u8 14,.int .u8 19,.int .u8 9,.int .u8 13,.int .u8 8,.int .u8 7,.int .u8 6]
def Kw:List Value:= [.int .u64 1,.int .u64 10,.int .u64 100,.int .u64 1000,.int .u64 10000,.int .u64 100000,.int .u64 1000000,.int .u64 10000000,.int .u64 100000000,.int .u64 1000000000,.int .u64 10000000000,.int .u64 100000000000,.int .u64 1000000000000,.int .u64 10000000000000,.int .u64 100000000000000,.int .u64 1000000000000000,.int .u64 10000000000000000,.int .u64 100000000000000000,.int .u64 1000000000000000000,.int .u64 10000000000000000000]
def Ky:List Value:= [.string ⟨#[97,100,100]⟩,.string ⟨#[97,110,100]⟩,.string ⟨#[100,101,102,97,117,108,116]⟩,.string ⟨#[100,105,99,116]⟩,.string ⟨#[101,113]⟩,.string ⟨#[103,101,116]⟩,.string ⟨#[104,97,115]⟩,.string ⟨#[105,110,100,101,110,116]⟩,.string ⟨#[105,110,116]⟩,.string ⟨#[106,111,105,110]⟩,.string ⟨#[107,101,121,115]⟩,.string ⟨#[108,101,110]⟩,.string ⟨#[108,105,115,116]⟩,.string ⟨#[108,111,119,101,114]⟩,.string ⟨#[108,116]⟩,.string ⟨#[109,117,108]⟩,.string ⟨#[110,101]⟩,.string ⟨#[110,105,110,100,101,110,116]⟩,.string ⟨#[110,111,116]⟩,.string ⟨#[111,114]⟩,.string ⟨#[112,114,105,110,116]⟩,.string ⟨#[113,117,111,116,101]⟩,.string ⟨#[114,101,113,117,105,114,101,100]⟩,.string ⟨#[115,117,98]⟩,.string ⟨#[116,101,114,110,97,114,121]⟩,.string ⟨#[116,111,83,116,114,105,110,103]⟩,.string ⟨#[116,111,89,97,109,108]⟩,.string ⟨#[116,114,105,109]⟩,.string ⟨#[117,112,112,101,114]⟩]
abbrev gv_deBruijn32tab:List Value:=Ku
abbrev gi_deBruijn32tab:Nat:=8
abbrev gv_deBruijn64tab:List Value:=Kv
abbrev gi_deBruijn64tab:Nat:=9
abbrev gv_uint64pow10:List Value:=Kw
abbrev gi_uint64pow10:Nat:=7
abbrev gv_names:List Value:=Ky
abbrev gi_names:Nat:=4
def Gs:List (Nat×List Value):= [(8,Ku),(9,Kv),(7,Kw),(4,Ky)]
def wX:List Nat:= [6,5]
def zQ:List Nat:= [0]
abbrev gi_ErrRange:Nat:=6
abbrev gi_ErrSyntax:Nat:=5
def bT:TypeId:=120
structure GW (w:World):Prop where
 cells: ∀x∈Gs,∃ty fr,w.heap[x.1]? =some (.cells x.2.toArray ty fr)
 ifc: ∀g∈wX,∃ev ty fr,w.heap[g]? =some (.cells #[ev] ty fr)∧(ev= .nilIface∨ ∃te pe,ev= .iface te pe)
 num: ∀g∈zQ,∃m,w.cell? ⟨g,0,none⟩=some (.int .i64 m)
theorem GW.below {w w' :World} (h:GW w) (hb:Below w.heap.size w w'):GW w' where
 cells:=fun x j=>by
  obtain ⟨ty,fr,i⟩:=h.cells x j;exact ⟨ty,fr,(hb.block _ (gC0 i).1).trans i⟩
 ifc:=fun g j=>by
  obtain ⟨ev,ty,fr,i,r⟩:=h.ifc g j;exact ⟨ev,ty,fr,(hb.block _ (gC0 i).1).trans i,r⟩
 num:=fun g j=>by
  obtain ⟨m,i⟩:=h.num g j;exact ⟨m,(hb.cell (p:=⟨g,0,none⟩) (World.block_lt_of_cell? w _ i)).trans i⟩
theorem GW.ifc_cell {w:World} (h:GW w) {g:Nat} (i:g∈wX): ∃ev,w.cell? ⟨g,0,none⟩=some ev∧(ev= .nilIface∨ ∃te pe,ev= .iface te pe):=by
 obtain ⟨ev,ty,fr,j,p⟩:=h.ifc g i;exact ⟨ev,by rw [cell_of_row w g 0 #[ev] ty fr j];rfl,p⟩
end Go.Proofs.YtbgflifmanjpjaaGreatDoor
