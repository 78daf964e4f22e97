/-
  Proved: ChartMakes returns true for every input, with the listed package variables tied to the program's text. Without further conditions.
-/
import Derived.Test.YtbgflifmanjpjaaGreatDoorS53
import Derived.Lib.LaidU8
import Derived.Shelf.Vars
import Derived.Deep.DeepHandedRow
namespace Go.Proofs.YtbgflifmanjpjaaGreatDoor
section
open Go.RowKit Go.Lib
theorem rR {α β:Type} {f:α→Option β}: ∀{l:List α} {r:List β},l.mapM f=some r→r.length=l.length
  | [],r,h=>by simp at h;subst h;rfl
  |x::l,r,h=>by
   simp only [List.mapM_cons,Option.bind_eq_bind,Option.bind_eq_some_iff,Option.pure_def,gB9] at h;obtain ⟨b,_,i,g,rfl⟩:=h;simp [rR g]
def Kb:DataW Unit→Value
  | .lit (.int k z)=> .int k z
  | .lit (.string l)=> .string ⟨l.toArray⟩
  |_=>undef
theorem zP {P:Program} {w:World} {n:String} {g:Nat} {t e:TypeId} {len fuel:Nat} {ds:List (DataW Unit)} {p:List MemPlace} {cs:Array Value} (hg:P.globalNamed n=some g) (hu:P.underlying t=some (.array len e))
    (J:(match P.underlying e with|some (.int _)=>true|some .string=>true|_=>false)=true) (hc:P.cellsOf e=1) (hct:P.cellsOf t=len) (R:w.var? P n=some cs) (h:DataW.trod (fun _=>()) P w 0 (fun _=>true) false fuel t cs.toList=some (.agg ds,p)):
    ∃ty fr,w.heap[g]? =some (.cells (ds.map Kb).toArray ty fr):=by
  have key:cs=(ds.map Kb).toArray:=by
    cases fuel with
    |zero=>simp [DataW.trod] at h
    |succ fuel=>
     simp only [DataW.trod,hu,hc] at h;split at h
     ·rename_i hl
      obtain ⟨xs,hm,hx⟩:=Option.map_eq_some_iff.1 h
      have r:xs.map (·.1)=ds:=by
        have:=congrArg Prod.fst hx;simpa using this
      have T:xs.length=len:=by have:=rR hm;simpa using this
      refine Array.toList_inj.1 ?_;apply List.ext_getElem?;intro i;by_cases hi:i<len
      ·obtain ⟨b,hb,U⟩:=mapM_at hm i i (by simp [hi])
       have C:i<cs.toList.length:=by rw [hl];omega
       have e1:(cs.toList.drop (i*1)).take 1= [cs.toList[i]]:=by
         rw [Nat.mul_one,List.drop_eq_getElem_cons C];rfl
       rw [e1] at U;have hdi:ds[i]? =some b.1:=by rw [←r];simp [hb]
       have I:Kb b.1=cs.toList[i]:=by
         cases j:P.underlying e with
         |none=>rw [j] at J;cases J
         |some u=>
          rw [j] at J;cases u<;>first|cases J|skip
          ·obtain ⟨n',k1,k2,_⟩:=DataW.trod_int j U
           have k3:=(List.cons.inj k1).1;rw [k3];cases k2;rfl
          ·obtain ⟨s,k1,k2,_⟩:=DataW.trod_string j U
           have k3:=(List.cons.inj k1).1;rw [k3];cases k2;simp [Kb]
       simp only [gA8,hdi,Option.map_some,I,gA1 C]
      ·have h2:ds.length=len:=by rw [←r];simp [T]
       rw [List.getElem?_eq_none (by omega),List.getElem?_eq_none (by simp;omega)]
     ·cases h
  rw [←key];simp only [World.var?,hg,Option.bind_some] at R;split at R
  ·rename_i c t' fr hh
   cases R;exact ⟨t',fr,hh⟩
  ·cases R
theorem IS {P:Program} {w:World} {n:String} {g:Nat} {t:TypeId} {r:Array (String×TypeId)} {fuel:Nat} {d:DataW Unit} {p:List MemPlace} {cs:Array Value} (hg:P.globalNamed n=some g) (C:P.underlying t=some (.interface r))
    (i:w.var? P n=some cs) (h:DataW.trod (fun _=>()) P w 0 (fun _=>true) false fuel t cs.toList=some (d,p)):
    ∃ev ty fr,w.heap[g]? =some (.cells #[ev] ty fr)∧(ev= .nilIface∨ ∃te pe,ev= .iface te pe):=by
  have key: ∃ev,cs= #[ev]∧(ev= .nilIface∨ ∃te pe,ev= .iface te pe):=by
    obtain ⟨l⟩:=cs;cases fuel with
    |zero=>simp [DataW.trod] at h
    |succ fuel=>
     simp only [DataW.trod,C] at h;split at h
     all_goals first
       |exact ⟨_,by simp_all;rfl,.inl rfl⟩
       |exact ⟨_,by simp_all;rfl,.inr ⟨_,_,rfl⟩⟩
       |(simp_all;done)
  obtain ⟨ev,rfl,j⟩:=key;simp only [World.var?,hg,Option.bind_some] at i;split at i
  ·rename_i c I fr J
   cases i;exact ⟨ev,I,fr,J,j⟩
  ·cases i
theorem Mh {W:World} (h:laidMet Tryz.prog Rows.chartMakesRow.laid W): ∃ty fr,W.heap[8]? =some (.cells Ku.toArray ty fr):=by
  have i:VarReads Tryz.prog W "math/bits.deBruijn32tab" Rows.laid_math_bits_deBruijn32tab:=laidMet.reads h (by simp [Rows.chartMakesRow]);obtain ⟨g,t,cs,fuel,p,j,r,C,I⟩:=i
  obtain rfl:=Option.some.inj ((show Tryz.prog.globalNamed "math/bits.deBruijn32tab" =some 8 by kernel_rfl).symm.trans j);obtain rfl:=Option.some.inj ((show (Tryz.prog.globals[8]?).map (·.type)=some 343 by kernel_rfl).symm.trans r)
  exact zP (show Tryz.prog.globalNamed "math/bits.deBruijn32tab" =some 8 by kernel_rfl) Tryz.underlying343 (by kernel_rfl) (by kernel_rfl) (by kernel_rfl) C I
theorem Mi {W:World} (h:laidMet Tryz.prog Rows.chartMakesRow.laid W): ∃ty fr,W.heap[9]? =some (.cells Kv.toArray ty fr):=by
  have i:VarReads Tryz.prog W "math/bits.deBruijn64tab" Rows.laid_math_bits_deBruijn64tab:=laidMet.reads h (by simp [Rows.chartMakesRow]);obtain ⟨g,t,cs,fuel,p,j,r,C,I⟩:=i
  obtain rfl:=Option.some.inj ((show Tryz.prog.globalNamed "math/bits.deBruijn64tab" =some 9 by kernel_rfl).symm.trans j);obtain rfl:=Option.some.inj ((show (Tryz.prog.globals[9]?).map (·.type)=some 344 by kernel_rfl).symm.trans r)
  exact zP (show Tryz.prog.globalNamed "math/bits.deBruijn64tab" =some 9 by kernel_rfl) Tryz.underlying344 (by kernel_rfl) (by kernel_rfl) (by kernel_rfl) C I
theorem Mj {W:World} (h:laidMet Tryz.prog Rows.chartMakesRow.laid W): ∃ty fr,W.heap[7]? =some (.cells Kw.toArray ty fr):=by
  have i:VarReads Tryz.prog W "internal/strconv.uint64pow10" Rows.laid_internal_strconv_uint64pow10:=laidMet.reads h (by simp [Rows.chartMakesRow]);obtain ⟨g,t,cs,fuel,p,j,r,C,I⟩:=i
  obtain rfl:=Option.some.inj ((show Tryz.prog.globalNamed "internal/strconv.uint64pow10" =some 7 by kernel_rfl).symm.trans j);obtain rfl:=Option.some.inj ((show (Tryz.prog.globals[7]?).map (·.type)=some 339 by kernel_rfl).symm.trans r)
  exact zP (show Tryz.prog.globalNamed "internal/strconv.uint64pow10" =some 7 by kernel_rfl) Tryz.underlying339 (by kernel_rfl) (by kernel_rfl) (by kernel_rfl) C I
theorem Mk {W:World} (h:laidMet Tryz.prog Rows.chartMakesRow.laid W): ∃ty fr,W.heap[4]? =some (.cells Ky.toArray ty fr):=by
  have i:VarReads Tryz.prog W "mizzen/funcs.names" Rows.laid_mizzen_funcs_names:=laidMet.reads h (by simp [Rows.chartMakesRow]);obtain ⟨g,t,cs,fuel,p,j,r,C,I⟩:=i
  obtain rfl:=Option.some.inj ((show Tryz.prog.globalNamed "mizzen/funcs.names" =some 4 by kernel_rfl).symm.trans j);obtain rfl:=Option.some.inj ((show (Tryz.prog.globals[4]?).map (·.type)=some 297 by kernel_rfl).symm.trans r)
  exact zP (show Tryz.prog.globalNamed "mizzen/funcs.names" =some 4 by kernel_rfl) Tryz.underlying297 (by kernel_rfl) (by kernel_rfl) (by kernel_rfl) C I
theorem Ml {W:World} (h:laidMet Tryz.prog Rows.chartMakesRow.laid W): ∃ev ty fr,W.heap[6]? =some (.cells #[ev] ty fr)∧(ev= .nilIface∨ ∃te pe,ev= .iface te pe):=by
  have i:VarReads Tryz.prog W "strconv.ErrRange" Rows.laid_strconv_ErrRange:=laidMet.reads h (by simp [Rows.chartMakesRow]);obtain ⟨g,t,cs,fuel,p,j,r,C,I⟩:=i
  obtain rfl:=Option.some.inj ((show Tryz.prog.globalNamed "strconv.ErrRange" =some 6 by kernel_rfl).symm.trans j);obtain rfl:=Option.some.inj ((show (Tryz.prog.globals[6]?).map (·.type)=some 216 by kernel_rfl).symm.trans r)
  exact IS (show Tryz.prog.globalNamed "strconv.ErrRange" =some 6 by kernel_rfl) Tryz.underlying216 C I
theorem Mm {W:World} (h:laidMet Tryz.prog Rows.chartMakesRow.laid W): ∃ev ty fr,W.heap[5]? =some (.cells #[ev] ty fr)∧(ev= .nilIface∨ ∃te pe,ev= .iface te pe):=by
  have i:VarReads Tryz.prog W "strconv.ErrSyntax" Rows.laid_strconv_ErrSyntax:=laidMet.reads h (by simp [Rows.chartMakesRow]);obtain ⟨g,t,cs,fuel,p,j,r,C,I⟩:=i
  obtain rfl:=Option.some.inj ((show Tryz.prog.globalNamed "strconv.ErrSyntax" =some 5 by kernel_rfl).symm.trans j);obtain rfl:=Option.some.inj ((show (Tryz.prog.globals[5]?).map (·.type)=some 216 by kernel_rfl).symm.trans r)
  exact IS (show Tryz.prog.globalNamed "strconv.ErrSyntax" =some 5 by kernel_rfl) Tryz.underlying216 C I
theorem Mn {W:World} (h:W.ShapedOpen Tryz.prog): ∃m,W.cell? ⟨0,0,none⟩=some (.int .i64 m):=cell_of_shapedOpen_int h (gB3 (by kernel_rfl)) (show _=some (#[.int .i64 0],3) by kernel_rfl) rfl (by kernel_rfl) (by kernel_rfl) (by kernel_rfl)
theorem D3 {W:World} (h:laidMet Tryz.prog Rows.chartMakesRow.laid W) (i:W.ShapedOpen Tryz.prog):GW W:=by
  refine ⟨fun x g=> ?_,fun x g=> ?_,fun x g=> ?_⟩
  ·simp only [Gs,List.mem_cons,List.not_mem_nil,or_false] at g
   rcases g with rfl|rfl|rfl|rfl
   ·exact Mh h
   ·exact Mi h
   ·exact Mj h
   ·exact Mk h
  ·simp only [wX,List.mem_cons,List.not_mem_nil,or_false] at g
   rcases g with rfl|rfl
   ·exact Ml h
   ·exact Mm h
  ·simp only [zQ,List.mem_cons,List.not_mem_nil,or_false] at g
   rcases g with rfl
   ·exact Mn i
end
section
set_option linter.unusedSimpArgs false
set_option linter.unusedVariables false
open Go.ChangeShapes Go.WideShapes Go.ChangeAt Go.RowKit Go.Deep
theorem IT (os:Os):laidMet Tryz.prog Rows.chartMakesRow.laid ((qB os).forCall (fun _ _=>0) ⟨#[], #[.slice none 0 0,.string ⟨#[]⟩],[]⟩).memory:=
  laidMet_of_run' 8 (by kernel_rfl) (by kernel_rfl)
theorem reads (os:Os) {H:Type} (enc:TypeId×Value→H): ∃places,DataW.whole enc Tryz.prog ((qB os).forCall (fun _ _=>0) ⟨#[], #[.slice none 0 0,.string ⟨#[]⟩],[]⟩).memory Tryz.f4.params.toList Rows.chartMakesSpec.vars false (#[.slice none 0 0,.string ⟨#[]⟩]:Array Value).toList 8=some ([.nil,.lit (.string [])],[],places):=
  ⟨[],by kernel_rfl⟩
set_option maxRecDepth 100000 in
theorem lifted (os:Os) (started:os.Started) (H:Type) (enc:TypeId×Value→H) (F:Stop.Interp):
    ReturnsInHanded {} Tryz.checked os 4 .any ((OpenSpec.ofChange Rows.chartMakesSpec).preRow enc Tryz.prog Tryz.f4 Rows.chartMakesRow.domain false Rows.chartMakesRow.laid) (((OpenSpec.ofChange Rows.chartMakesSpec).at F).post enc Tryz.prog Tryz.f4 false true false false):=by
  obtain ⟨places,U⟩:=reads os enc
  refine returnsInHanded_of_row (C:=Tryz.checked) (s:=OpenSpec.ofChange Rows.chartMakesSpec) own started (by kernel_rfl) Tryz.func4
    (witness_row_at (enc:=enc) (C:=Tryz.checked) false (qB os) #[.slice none 0 0,.string ⟨#[]⟩] rfl (by kernel_rfl) (by kernel_rfl) (by kernel_rfl)
      (OpenSpec.preRow_of_cond 8 U (by kernel_rfl) (fun k hk=>by cases hk) (by kernel_rfl) (IT os))) ?_
  intro W base args ds gs before g T _ _ I hL r _;have hsz:(DataW.weightsEach Tryz.prog (Tryz.f4.params.toList++Rows.chartMakesSpec.plain.varTypes Tryz.prog) (ds++gs)).all (· ≤reachBytes)=true:=I;have i: ∀(j:Nat) t v,Tryz.f4.params[j]? =some t→args[j]? =some v→Value.okWide Tryz.prog W .any base t v:=g
  have P:=T;obtain ⟨p,q,J,hV,rfl,hfz,hnd⟩:=T;have hA:DataW.TrodAll enc Tryz.prog W 0 (fun _=>true) true Tryz.f4.params.toList args.toList ds p:=J;rw [Tryz.params4] at hA i hsz;clear J g;obtain ⟨v0,vs0,d0,ds0,p0,q0,e0,rfl,rfl,h0,k0⟩:=trodAll_cons hA;obtain ⟨v1,vs1,d1,ds1,p1,q1,rfl,rfl,rfl,h1,k1⟩:=trodAll_cons k0;obtain ⟨rfl,rfl,rfl⟩:=trodAll_nil k1;have R:args= #[v0,v1]:=by cases args;simp_all
  subst R;obtain ⟨rfl,rfl⟩:=trodVars_none hV;obtain ⟨l,r0,zl,zp⟩:=vg (okWide_slice Tryz.underlying22 (i 0 22 v0 rfl rfl)) h0 (HL hsz (j:=0) rfl rfl);obtain ⟨s,rfl,z1,_⟩:=Ju (okWide_string Tryz.underlying9 (i 1 9 v1 rfl rfl)) h1 (HL hsz (j:=1) rfl rfl);refine ((zO l s zl zp z1).run (σW W) W [v0,.string s] (FL W) (RelPs.two r0 (.str _)) (D3 hL r)).mono fun e' W' ⟨σ',u,he,_,_,hb,hr⟩=> ?_
  subst he;have hu:u= .bool true:=by cases (show Rel1 σ' u (.bool true) from hr);rfl
  subst hu;exact ⟨_,rfl,He Jt (by kernel_rfl) (by kernel_rfl) Tryz.underlying4 rfl P rfl hb⟩
theorem Mo:Rows.ChartMakesSaid:=
  OpenClaim.holds_of_cond 4 Tryz.f4 rfl rfl rfl rfl rfl rfl rfl ⟨rfl,rfl,rfl,rfl,rfl⟩ rfl rfl rfl rfl rfl (by kernel_rfl) Tryz.func4 Li
    (gB3 (by kernel_rfl)) (by unfold Func.isWrapper;first|(rw [if_pos (by decide+kernel)];kernel_rfl)|(rw [if_neg (by decide+kernel)];exact ⟨rfl,rfl⟩))
    (fun os started H enc _ F=>by rw [OpenClaim.pre_eq_preRow];exact lifted os started H enc F)
theorem plain (f:FuncId) (fn:Func) (p:Tryz.pinned.checked.prog.funcNamed "mizzen/mizzenlaw10.ChartMakes" =some f) (g:Tryz.pinned.checked.prog.funcs[f]? =some fn):
    true=Tryz.pinned.checked.prog.looks []∧ ∀(j:Nat) t,fn.params[j]? =some t→Tryz.pinned.checked.prog.wantsStandIn t=false:=by
  obtain rfl:f=4:=Option.some.inj ((show Tryz.prog.funcNamed "mizzen/mizzenlaw10.ChartMakes" =some 4 by kernel_rfl).symm.trans p)|>.symm
  obtain rfl:fn=Tryz.f4:=(Option.some.inj (Tryz.func4.symm.trans g)).symm;refine ⟨by kernel_rfl,fun j t ht=> ?_⟩;rw [Tryz.params4] at ht;have i:=Array.mem_of_getElem? ht;have key:([22,9].all fun t=> !Tryz.prog.wantsStandIn t)=true:=by kernel_rfl
  have r:t∈ [22,9]:=by simpa using i
  have C:=List.all_eq_true.1 key t r;have I:Tryz.prog.wantsStandIn t=false:=by simpa using C
  exact I
theorem chartMakes_card:Rows.ChartMakesCardSaid:=
  Claim7.holds_tied_plain_at .later [] _ _ _ _ Mo (fun _ h=>by cases h) (by kernel_rfl) (fun _ h=>by cases h) chartMakes_row_tie rfl ⟨rfl,rfl⟩ (by kernel_rfl) rfl plain (by kernel_rfl)
#print axioms chartMakes_card
end
end Go.Proofs.YtbgflifmanjpjaaGreatDoor
