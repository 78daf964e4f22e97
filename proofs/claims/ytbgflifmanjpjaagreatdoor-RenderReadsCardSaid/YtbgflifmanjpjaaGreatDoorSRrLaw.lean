/-
  Proved: RenderReads returns true for every input, with the listed package variables tied to the program's text. Without further conditions.
-/
import Derived.Test.YtbgflifmanjpjaaGreatDoorS51
import Derived.Test.YtbgflifmanjpjaaGreatDoorS52
import Derived.Lib.LaidU8
import Derived.Shelf.Vars
import Derived.Deep.DeepHandedRow
namespace Go.Proofs.YtbgflifmanjpjaaGreatDoor
section
open Go.RowKit Go.Lib
theorem sT {α β:Type} {f:α→Option β}: ∀{l:List α} {r:List β},l.mapM f=some r→r.length=l.length
  | [],r,h=>by simp at h;subst h;rfl
  |x::l,r,h=>by
   simp only [List.mapM_cons,Option.bind_eq_bind,Option.bind_eq_some_iff,Option.pure_def,gB9] at h;obtain ⟨b,_,i,g,rfl⟩:=h;simp [sT g]
def Ma:DataW Unit→Value
  | .lit (.int k z)=> .int k z
  | .lit (.string l)=> .string ⟨l.toArray⟩
  |_=>undef
theorem xy {P:Program} {w:World} {n:String} {g:Nat} {t e:TypeId} {len fuel:Nat} {ds:List (DataW Unit)} {p:List MemPlace} {cs:Array Value} (hg:P.globalNamed n=some g) (hu:P.underlying t=some (.array len e))
    (J:(match P.underlying e with|some (.int _)=>true|some .string=>true|_=>false)=true) (hc:P.cellsOf e=1) (hct:P.cellsOf t=len) (R:w.var? P n=some cs) (h:DataW.trod (fun _=>()) P w 0 (fun _=>true) false fuel t cs.toList=some (.agg ds,p)):
    ∃ty fr,w.heap[g]? =some (.cells (ds.map Ma).toArray ty fr):=by
  have key:cs=(ds.map Ma).toArray:=by
    cases fuel with
    |zero=>simp [DataW.trod] at h
    |succ fuel=>
     simp only [DataW.trod,hu,hc] at h;split at h
     ·rename_i hl
      obtain ⟨xs,hm,hx⟩:=Option.map_eq_some_iff.1 h
      have r:xs.map (·.1)=ds:=by
        have:=congrArg Prod.fst hx;simpa using this
      have T:xs.length=len:=by have:=sT hm;simpa using this
      refine Array.toList_inj.1 ?_;apply List.ext_getElem?;intro i;by_cases hi:i<len
      ·obtain ⟨b,hb,U⟩:=mapM_at hm i i (by simp [hi])
       have C:i<cs.toList.length:=by rw [hl];omega
       have e1:(cs.toList.drop (i*1)).take 1= [cs.toList[i]]:=by
         rw [Nat.mul_one,List.drop_eq_getElem_cons C];rfl
       rw [e1] at U;have hdi:ds[i]? =some b.1:=by rw [←r];simp [hb]
       have I:Ma b.1=cs.toList[i]:=by
         cases j:P.underlying e with
         |none=>rw [j] at J;cases J
         |some u=>
          rw [j] at J;cases u<;>first|cases J|skip
          ·obtain ⟨n',k1,k2,_⟩:=DataW.trod_int j U
           have k3:=(List.cons.inj k1).1;rw [k3];cases k2;rfl
          ·obtain ⟨s,k1,k2,_⟩:=DataW.trod_string j U
           have k3:=(List.cons.inj k1).1;rw [k3];cases k2;simp [Ma]
       simp only [gA8,hdi,Option.map_some,I,gA1 C]
      ·have h2:ds.length=len:=by rw [←r];simp [T]
       rw [List.getElem?_eq_none (by omega),List.getElem?_eq_none (by simp;omega)]
     ·cases h
  rw [←key];simp only [World.var?,hg,Option.bind_some] at R;split at R
  ·rename_i c t' fr hh
   cases R;exact ⟨t',fr,hh⟩
  ·cases R
theorem KM {P:Program} {w:World} {n:String} {g:Nat} {t:TypeId} {r:Array (String×TypeId)} {fuel:Nat} {d:DataW Unit} {p:List MemPlace} {cs:Array Value} (hg:P.globalNamed n=some g) (C:P.underlying t=some (.interface r))
    (i:w.var? P n=some cs) (h:DataW.trod (fun _=>()) P w 0 (fun _=>true) false fuel t cs.toList=some (d,p)):
    ∃ev ty fr,w.heap[g]? =some (.cells #[ev] ty fr)∧(ev= .nilIface∨ ∃te pe,ev= .iface te pe):=by
  have key: ∃ev,cs= #[ev]∧(ev= .nilIface∨ ∃te pe,ev= .iface te pe):=by
    obtain ⟨l⟩:=cs;cases fuel with
    |zero=>simp [DataW.trod] at h
    |succ fuel=>
     simp only [DataW.trod,C] at h;split at h
     all_goals first
       |exact ⟨_,by simp_all;rfl,.inl rfl⟩
       |exact ⟨_,by simp_all;rfl,.inr ⟨_,_,rfl⟩⟩
       |(simp_all;done)
  obtain ⟨ev,rfl,j⟩:=key;simp only [World.var?,hg,Option.bind_some] at i;split at i
  ·rename_i c I fr J
   cases i;exact ⟨ev,I,fr,J,j⟩
  ·cases i
theorem OC {W:World} (h:laidMet Tryz.prog Rows.renderReadsRow.laid W): ∃ty fr,W.heap[8]? =some (.cells Mu.toArray ty fr):=by
  have i:VarReads Tryz.prog W "math/bits.deBruijn32tab" Rows.laid_math_bits_deBruijn32tab:=laidMet.reads h (by simp [Rows.renderReadsRow]);obtain ⟨g,t,cs,fuel,p,j,r,C,I⟩:=i
  obtain rfl:=Option.some.inj ((show Tryz.prog.globalNamed "math/bits.deBruijn32tab" =some 8 by kernel_rfl).symm.trans j);obtain rfl:=Option.some.inj ((show (Tryz.prog.globals[8]?).map (·.type)=some 343 by kernel_rfl).symm.trans r)
  exact xy (show Tryz.prog.globalNamed "math/bits.deBruijn32tab" =some 8 by kernel_rfl) Tryz.underlying343 (by kernel_rfl) (by kernel_rfl) (by kernel_rfl) C I
theorem OD {W:World} (h:laidMet Tryz.prog Rows.renderReadsRow.laid W): ∃ty fr,W.heap[9]? =some (.cells Mv.toArray ty fr):=by
  have i:VarReads Tryz.prog W "math/bits.deBruijn64tab" Rows.laid_math_bits_deBruijn64tab:=laidMet.reads h (by simp [Rows.renderReadsRow]);obtain ⟨g,t,cs,fuel,p,j,r,C,I⟩:=i
  obtain rfl:=Option.some.inj ((show Tryz.prog.globalNamed "math/bits.deBruijn64tab" =some 9 by kernel_rfl).symm.trans j);obtain rfl:=Option.some.inj ((show (Tryz.prog.globals[9]?).map (·.type)=some 344 by kernel_rfl).symm.trans r)
  exact xy (show Tryz.prog.globalNamed "math/bits.deBruijn64tab" =some 9 by kernel_rfl) Tryz.underlying344 (by kernel_rfl) (by kernel_rfl) (by kernel_rfl) C I
theorem OE {W:World} (h:laidMet Tryz.prog Rows.renderReadsRow.laid W): ∃ty fr,W.heap[7]? =some (.cells Mw.toArray ty fr):=by
  have i:VarReads Tryz.prog W "internal/strconv.uint64pow10" Rows.laid_internal_strconv_uint64pow10:=laidMet.reads h (by simp [Rows.renderReadsRow]);obtain ⟨g,t,cs,fuel,p,j,r,C,I⟩:=i
  obtain rfl:=Option.some.inj ((show Tryz.prog.globalNamed "internal/strconv.uint64pow10" =some 7 by kernel_rfl).symm.trans j);obtain rfl:=Option.some.inj ((show (Tryz.prog.globals[7]?).map (·.type)=some 339 by kernel_rfl).symm.trans r)
  exact xy (show Tryz.prog.globalNamed "internal/strconv.uint64pow10" =some 7 by kernel_rfl) Tryz.underlying339 (by kernel_rfl) (by kernel_rfl) (by kernel_rfl) C I
theorem OF {W:World} (h:laidMet Tryz.prog Rows.renderReadsRow.laid W): ∃ty fr,W.heap[1]? =some (.cells Mx.toArray ty fr):=by
  have i:VarReads Tryz.prog W "mizzen/object.order" Rows.laid_mizzen_object_order:=laidMet.reads h (by simp [Rows.renderReadsRow]);obtain ⟨g,t,cs,fuel,p,j,r,C,I⟩:=i
  obtain rfl:=Option.some.inj ((show Tryz.prog.globalNamed "mizzen/object.order" =some 1 by kernel_rfl).symm.trans j);obtain rfl:=Option.some.inj ((show (Tryz.prog.globals[1]?).map (·.type)=some 277 by kernel_rfl).symm.trans r)
  exact xy (show Tryz.prog.globalNamed "mizzen/object.order" =some 1 by kernel_rfl) Tryz.underlying277 (by kernel_rfl) (by kernel_rfl) (by kernel_rfl) C I
theorem OG {W:World} (h:laidMet Tryz.prog Rows.renderReadsRow.laid W): ∃ty fr,W.heap[4]? =some (.cells My.toArray ty fr):=by
  have i:VarReads Tryz.prog W "mizzen/funcs.names" Rows.laid_mizzen_funcs_names:=laidMet.reads h (by simp [Rows.renderReadsRow]);obtain ⟨g,t,cs,fuel,p,j,r,C,I⟩:=i
  obtain rfl:=Option.some.inj ((show Tryz.prog.globalNamed "mizzen/funcs.names" =some 4 by kernel_rfl).symm.trans j);obtain rfl:=Option.some.inj ((show (Tryz.prog.globals[4]?).map (·.type)=some 297 by kernel_rfl).symm.trans r)
  exact xy (show Tryz.prog.globalNamed "mizzen/funcs.names" =some 4 by kernel_rfl) Tryz.underlying297 (by kernel_rfl) (by kernel_rfl) (by kernel_rfl) C I
theorem OH {W:World} (h:laidMet Tryz.prog Rows.renderReadsRow.laid W): ∃ev ty fr,W.heap[6]? =some (.cells #[ev] ty fr)∧(ev= .nilIface∨ ∃te pe,ev= .iface te pe):=by
  have i:VarReads Tryz.prog W "strconv.ErrRange" Rows.laid_strconv_ErrRange:=laidMet.reads h (by simp [Rows.renderReadsRow]);obtain ⟨g,t,cs,fuel,p,j,r,C,I⟩:=i
  obtain rfl:=Option.some.inj ((show Tryz.prog.globalNamed "strconv.ErrRange" =some 6 by kernel_rfl).symm.trans j);obtain rfl:=Option.some.inj ((show (Tryz.prog.globals[6]?).map (·.type)=some 216 by kernel_rfl).symm.trans r)
  exact KM (show Tryz.prog.globalNamed "strconv.ErrRange" =some 6 by kernel_rfl) Tryz.underlying216 C I
theorem OI {W:World} (h:laidMet Tryz.prog Rows.renderReadsRow.laid W): ∃ev ty fr,W.heap[5]? =some (.cells #[ev] ty fr)∧(ev= .nilIface∨ ∃te pe,ev= .iface te pe):=by
  have i:VarReads Tryz.prog W "strconv.ErrSyntax" Rows.laid_strconv_ErrSyntax:=laidMet.reads h (by simp [Rows.renderReadsRow]);obtain ⟨g,t,cs,fuel,p,j,r,C,I⟩:=i
  obtain rfl:=Option.some.inj ((show Tryz.prog.globalNamed "strconv.ErrSyntax" =some 5 by kernel_rfl).symm.trans j);obtain rfl:=Option.some.inj ((show (Tryz.prog.globals[5]?).map (·.type)=some 216 by kernel_rfl).symm.trans r)
  exact KM (show Tryz.prog.globalNamed "strconv.ErrSyntax" =some 5 by kernel_rfl) Tryz.underlying216 C I
theorem OJ {W:World} (h:W.ShapedOpen Tryz.prog): ∃m,W.cell? ⟨0,0,none⟩=some (.int .i64 m):=cell_of_shapedOpen_int h (gB3 (by kernel_rfl)) (show _=some (#[.int .i64 0],3) by kernel_rfl) rfl (by kernel_rfl) (by kernel_rfl) (by kernel_rfl)
theorem FG {W:World} (h:laidMet Tryz.prog Rows.renderReadsRow.laid W) (i:W.ShapedOpen Tryz.prog):GW W:=by
  refine ⟨fun x g=> ?_,fun x g=> ?_,fun x g=> ?_⟩
  ·simp only [Bj,List.mem_cons,List.not_mem_nil,or_false] at g
   rcases g with rfl|rfl|rfl|rfl|rfl
   ·exact OC h
   ·exact OD h
   ·exact OE h
   ·exact OF h
   ·exact OG h
  ·simp only [yx,List.mem_cons,List.not_mem_nil,or_false] at g
   rcases g with rfl|rfl
   ·exact OH h
   ·exact OI h
  ·simp only [Bk,List.mem_cons,List.not_mem_nil,or_false] at g
   rcases g with rfl
   ·exact OJ i
end
section
set_option linter.unusedSimpArgs false
set_option linter.unusedVariables false
open Go.ChangeShapes Go.WideShapes Go.ChangeAt Go.RowKit Go.Deep
theorem KN (os:Os):laidMet Tryz.prog Rows.renderReadsRow.laid ((rm os).forCall (fun _ _=>0) ⟨#[], #[.string ⟨#[]⟩],[]⟩).memory:=
  laidMet_of_run' 8 (by kernel_rfl) (by kernel_rfl)
theorem reads (os:Os) {H:Type} (enc:TypeId×Value→H): ∃places,DataW.whole enc Tryz.prog ((rm os).forCall (fun _ _=>0) ⟨#[], #[.string ⟨#[]⟩],[]⟩).memory Tryz.f6.params.toList Rows.renderReadsSpec.vars false (#[.string ⟨#[]⟩]:Array Value).toList 8=some ([.lit (.string [])],[],places):=
  ⟨[],by kernel_rfl⟩
set_option maxRecDepth 100000 in
theorem lifted (os:Os) (started:os.Started) (H:Type) (enc:TypeId×Value→H) (F:Stop.Interp):
    ReturnsInHanded {} Tryz.checked os 6 .any ((OpenSpec.ofChange Rows.renderReadsSpec).preRow enc Tryz.prog Tryz.f6 Rows.renderReadsRow.domain false Rows.renderReadsRow.laid) (((OpenSpec.ofChange Rows.renderReadsSpec).at F).post enc Tryz.prog Tryz.f6 false true false false):=by
  obtain ⟨places,hx⟩:=reads os enc
  refine returnsInHanded_of_row (C:=Tryz.checked) (s:=OpenSpec.ofChange Rows.renderReadsSpec) own started (by kernel_rfl) Tryz.func6
    (witness_row_at (enc:=enc) (C:=Tryz.checked) false (rm os) #[.string ⟨#[]⟩] rfl (by kernel_rfl) (by kernel_rfl) (by kernel_rfl)
      (OpenSpec.preRow_of_cond 8 hx (by kernel_rfl) (fun k hk=>by cases hk) (by kernel_rfl) (KN os))) ?_
  intro W base args ds gs before g U _ _ I hL r _;have hsz:(DataW.weightsEach Tryz.prog (Tryz.f6.params.toList++Rows.renderReadsSpec.plain.varTypes Tryz.prog) (ds++gs)).all (· ≤reachBytes)=true:=I;have i: ∀(j:Nat) t v,Tryz.f6.params[j]? =some t→args[j]? =some v→Value.okWide Tryz.prog W .any base t v:=g
  have R:=U;obtain ⟨p,q,J,hV,rfl,hfz,hnd⟩:=U;have hA:DataW.TrodAll enc Tryz.prog W 0 (fun _=>true) true Tryz.f6.params.toList args.toList ds p:=J;rw [Tryz.params6] at hA i hsz;clear J g;obtain ⟨v0,vs0,d0,ds0,p0,q0,e0,rfl,rfl,h0,k0⟩:=trodAll_cons hA;obtain ⟨rfl,rfl,rfl⟩:=trodAll_nil k0;have T:args= #[v0]:=by cases args;simp_all
  subst T;obtain ⟨rfl,rfl⟩:=trodVars_none hV;obtain ⟨s,rfl,z1,_⟩:=Ls (okWide_string Tryz.underlying9 (i 0 9 v0 rfl rfl)) h0 (M8 hsz (j:=0) rfl rfl)
  have r1:RelPs (σW W) [.string s] [.str s]:=⟨rfl,fun j v w hv P=>by
    rcases j with _|j<;>simp at hv P
    subst hv P;exact .str _⟩
  refine ((yw s z1).run (σW W) W [.string s] (HA W) r1 (FG hL r)).mono fun e' W' ⟨σ',u,he,_,_,hb,hr⟩=> ?_
  subst he;have P:u= .bool true:=by cases (show Rel1 σ' u (.bool true) from hr);rfl
  subst P;exact ⟨_,rfl,Jg Lq (by kernel_rfl) (by kernel_rfl) Tryz.underlying4 rfl R rfl hb⟩
theorem OL:Rows.RenderReadsSaid:=
  OpenClaim.holds_of_cond 6 Tryz.f6 rfl rfl rfl rfl rfl rfl rfl ⟨rfl,rfl,rfl,rfl,rfl⟩ rfl rfl rfl rfl rfl (by kernel_rfl) Tryz.func6 Nt
    (gB3 (by kernel_rfl)) (by unfold Func.isWrapper;first|(rw [if_pos (by decide+kernel)];kernel_rfl)|(rw [if_neg (by decide+kernel)];exact ⟨rfl,rfl⟩))
    (fun os started H enc _ F=>by rw [OpenClaim.pre_eq_preRow];exact lifted os started H enc F)
theorem plain (f:FuncId) (fn:Func) (p:Tryz.pinned.checked.prog.funcNamed "mizzen/mizzenlaw13.RenderReads" =some f) (g:Tryz.pinned.checked.prog.funcs[f]? =some fn):
    true=Tryz.pinned.checked.prog.looks []∧ ∀(j:Nat) t,fn.params[j]? =some t→Tryz.pinned.checked.prog.wantsStandIn t=false:=by
  obtain rfl:f=6:=Option.some.inj ((show Tryz.prog.funcNamed "mizzen/mizzenlaw13.RenderReads" =some 6 by kernel_rfl).symm.trans p)|>.symm
  obtain rfl:fn=Tryz.f6:=(Option.some.inj (Tryz.func6.symm.trans g)).symm;refine ⟨by kernel_rfl,fun j t ht=> ?_⟩;rw [Tryz.params6] at ht;have i:=Array.mem_of_getElem? ht;have key:([9].all fun t=> !Tryz.prog.wantsStandIn t)=true:=by kernel_rfl
  have r:t∈ [9]:=by simpa using i
  have C:=List.all_eq_true.1 key t r;have I:Tryz.prog.wantsStandIn t=false:=by simpa using C
  exact I
theorem renderReads_card:Rows.RenderReadsCardSaid:=
  Claim7.holds_tied_plain_at .later [] _ _ _ _ OL (fun _ h=>by cases h) (by kernel_rfl) (fun _ h=>by cases h) renderReads_row_tie rfl ⟨rfl,rfl⟩ (by kernel_rfl) rfl plain (by kernel_rfl)
#print axioms renderReads_card
end
end Go.Proofs.YtbgflifmanjpjaaGreatDoor
