/- Part 46. -/
import Derived.Test.YtbgflifmanjpjaaGreatDoorS45
set_option linter.unusedSimpArgs false
set_option linter.unusedVariables false
namespace Go.Proofs.YtbgflifmanjpjaaGreatDoor
section
open Go.RowKit
theorem mP: ∀n k,k≤n→QN k∧QB k
 |0,k,g=>by
  obtain rfl:k=0:=by omega
  exact ⟨fun m o s r i _ h _=>absurd h (by omega),fun m w s nd st re i _ _ h _=>absurd h (by omega)⟩
 |n+1,k,g=>by
  by_cases h:k≤n
  ·exact mP n k h
  ·obtain rfl:k=n+1:=by omega
   have hn:=mP n n (gA4 _);exact ⟨L4 n fun k g=>(mP n k g).2,Kz n hn.1 hn.2⟩
theorem Dx {l:List Tok} {t x:Tok} (h:x∈bz l t):x∈l∨x=t:=by
 unfold bz at h;split at h
 ·exact .inl h
 ·rcases gB5 h with h|h
  ·exact .inl h
  ·exact .inr (gB1 h)
theorem If (i:Bs):(cEz i).length≤i.length:=gB7 (Gb _) (Dw i)
theorem xl (s:Bs): ∀(n a:Nat) (cut:Bool) (out l:List Tok),a≤s.length→out.length≤a→(∀t∈out,t.s.length≤s.length)→oN s n a cut out=some l→l.length≤s.length+1∧ ∀t∈l,t.s.length≤s.length
 |0,_,_,_,_,_,_,_,h=>by cases h
 |n+1,a,cut,out,l,J,P,ht,h=>by
  unfold oN at h;split at h
  ·cases h
   exact ⟨by omega,ht⟩
  ·split at h
   ·cases h
    refine ⟨gB7 (wG _ _).2 (by omega),fun t g=> ?_⟩;rcases Dx g with g|rfl
    ·exact ht t g
    ·refine gB7 (rD _ _) ?_
     rw [gA6];omega
   ·dsimp only at h
    split at h
    ·cases h
    ·rename_i e p
     have j:=wF p;have r:=(wG out ⟨false,if sK ((s.take e).drop ((Lib.index (s.drop a) [123,123]).toNat+a+2))=true then trw (a6 cut ((s.drop a).take (Lib.index (s.drop a) [123,123]).toNat)) else a6 cut ((s.drop a).take (Lib.index (s.drop a) [123,123]).toNat),a+(((s.drop a).take (Lib.index (s.drop a) [123,123]).toNat).length-(a6 cut ((s.drop a).take (Lib.index (s.drop a) [123,123]).toNat)).length)⟩).2
     have i: ∀t∈bz out ⟨false,if sK ((s.take e).drop ((Lib.index (s.drop a) [123,123]).toNat+a+2))=true then trw (a6 cut ((s.drop a).take (Lib.index (s.drop a) [123,123]).toNat)) else a6 cut ((s.drop a).take (Lib.index (s.drop a) [123,123]).toNat),a+(((s.drop a).take (Lib.index (s.drop a) [123,123]).toNat).length-(a6 cut ((s.drop a).take (Lib.index (s.drop a) [123,123]).toNat)).length)⟩,t.s.length≤s.length:=fun t g=>by
      rcases Dx g with g|rfl
      ·exact ht t g
      ·have C:=rD cut ((s.drop a).take (Lib.index (s.drop a) [123,123]).toNat)
       rw [gA7,gA6] at C;dsimp only;split
       ·refine gB7 (LA _) (by omega)
       ·omega
     have I:=If ((s.take e).drop ((Lib.index (s.drop a) [123,123]).toNat+a+2));rw [gA6,gA7] at I;refine xl s n _ _ _ l j.2 ?_ ?_ h
     ·split
      ·omega
      ·rw [gA5,List.length_singleton]
       omega
     ·intro t g
      split at g
      ·exact i t g
      ·rcases gB5 g with g|g
       ·exact i t g
       ·rw [gB1 g]
        show (cEz _).length≤_;omega
theorem o8 (s:Bs):(cV s).1.length≤65537∧ ∀t∈(cV s).1,t.s.length≤65536:=by
 unfold cV;split
 ·exact ⟨gB8 _,fun t h=>by cases h⟩
 ·cases h:oN s (s.length+1) 0 false [] with
  |none=>exact ⟨gB8 _,fun t h=>by cases h⟩
  |some l=>
   have g:=xl s _ _ _ _ l (gB8 _) (gA4 _) (fun t h=>by cases h) h;exact ⟨gB7 g.1 (by omega),fun t ht=>gB7 (g.2 t ht) (by omega)⟩
theorem Oj (a:Bs):(!decide (toB a=⟨#[]⟩))=decide (a≠ []):=Mk a
theorem L5 (s:Bs) (hl:s.length≤140737488355328):AC Tryz.prog 25 [.str (toB s)] (.tup [.lst .any 16 (a7 (cy s).1),.int .i64 (cy s).2]):=by
 have C:=Kw s hl;have i:=o8 s;unfold cy;generalize cV s=q at C i⊢;obtain ⟨l,e⟩:=q;obtain ⟨U,f2⟩:=i;dsimp only at C U f2⊢;refine kE Tryz.func25 rX rY fun E hE=> ?_
 refine kW ?_;refine kQ [.v (.tup [.lst .any 3 (ba l),.int .i64 e])] ?_;refine kW ?_;refine kC (fun hb=> ?_) fun hb=> ?_
 ·have J:e≠0:=by simpa using hb
  clear hb;rw [if_pos J];refine kW ?_;refine aR ⟨_,rfl,?_⟩;rfl
 have J:e=0:=by simpa using hb
 clear hb;subst J;rw [if_neg (show¬(0:Int)≠0 by simp)];rcases P:ndF (3*l.length+3) (.nodes []) ⟨l,0,0,0⟩ with ⟨out,stop,rest,⟨g,I,j,p⟩⟩
 have hM:=((mP _ _ (gA4 _)).1 ⟨l,0,0,0⟩ out stop rest ⟨g,I,j,p⟩ ⟨by show l.length≤_;omega,gB8 _,fun t ht=>gB7 (f2 t ht) (by omega)⟩ (by show 3*(l.length-0)+2≤3*l.length+3;omega) P).ren (swY 2000000 20) bA (bY (by rfl));have R:=(qg ⟨g,I,j,p⟩ 21).ren (swY 2000000 20) bA (bY (by rfl));dsimp only;refine kW ?_;refine kQ [.s [20] [(20,mnC ⟨g,I,j,p⟩)] (.tup [.lst .any 16 (a7 out),.str (toB stop),.str (toB rest)])] ?_;refine kW ?_;rw [Oj];by_cases r:p=0
 ·subst r
  refine kC (fun hb=> ?_) fun hb=> ?_
  ·have T:stop≠ []:=gB3 hb
   clear hb;rw [if_pos ⟨T,rfl⟩];refine kW ?_;refine kQ [.s [20] [(20,mnC ⟨g,g.length,j,21⟩)] (.tup [])] ?_;refine kW ?_;refine kCt ?_;refine kW ?_;refine aR ⟨_,rfl,?_⟩;rfl
  ·have T: ¬stop≠ []:=gB4 hb
   clear hb;rw [if_neg (fun h=>T h.1),if_neg (show¬(0:Int)≠0 by simp)];refine kW ?_;refine kCf ?_;refine kW ?_;refine aR ⟨_,rfl,?_⟩;rfl
 ·have e:(⟨g,I,j,p⟩:MK).fail 21=⟨g,g.length,j,p⟩:=by unfold MK.fail;rw [if_neg r]
  rw [e] at R;rw [if_neg (fun h=>r h.2),if_pos r];refine kC (fun hb=> ?_) fun hb=> ?_
  ·clear hb
   refine kW ?_;refine kQ [.s [20] [(20,mnC ⟨g,g.length,j,p⟩)] (.tup [])] ?_;refine kW ?_;refine kCt ?_ (by rw [decide_eq_false r];rfl);refine kW ?_;refine aR ⟨_,rfl,?_⟩;rfl
  ·clear hb
   refine kW ?_;refine kCt ?_ (by rw [decide_eq_false r];rfl);refine kW ?_;refine aR ⟨_,rfl,?_⟩;rfl
end
section
open Go.RowKit Go.MapKept
open Go.ChangeMaps (setBlock)
section
variable {P:Program} {mu:List Nat} {E:Env} {G G' :Gho} {fr fr' :Fr} {st st' :St} {a a0:Act} {w w0:World} {Q:Exit→Fr→St→Prop} {k:List AItem}
def MQ0 (P:Program) (E:Env) (Q:Exit→Fr→St→Prop) (k:List AItem) (g:Nat):Exit→Fr→St→Prop
 | .exit i=>fun f s=>i=g∧AK P E Q k f s
 |_=>fun _ _=>False
theorem AK.mrange0 {l1 pre post:List GI} {b:ACode} {T U d1:Nat} {t:TypeId} {x0 x1:Opd} (rs:List RS) {rs' :List RS} {fr1:Fr} {st1:St} {p1:Prop} (J:Nat→Fr×St) (hp1:p1)
  (h0: ∀r,Weak (aG fr1 U (itA r)) st1 (J r).1 (J r).2) (hJ: ∀r,x1.ev (J r).1=some (itA r))
  (hend: ∀r,∃rs rs' f2 s2 p2,iS P post rs (aG (J r).1 d1 (.tup [.bool false])) (J r).2=some (rs',f2,s2,p2)∧p2∧AK P E (MQ0 P E Q k T) [.c b] f2 s2)
  (hl1:pZ l1=some (pre,t,U,x0):=by rfl) (hs:iS P pre rs fr st=some (rs',fr1,st1,p1):=by rfl) (hx0:x0.ev fr1=some (.raw (.map none)):=by rfl):
  AK P E Q (.c (.seq (.reg l1) (.block T (.loop (.seq (.reg (⟨none,.nxt d1 x1⟩::post)) b))))::k) fr st:=by
 intro hd mu c G ac w hc _ hC;simp only [eB,gA9] at hd;obtain ⟨hd1,hd2,hdb⟩:=hd;obtain ⟨y,z,rfl,hy,hz⟩:=ko hc;have p:=kp hl1;obtain ⟨id1,ops1,rfl,hops1⟩:=gO hy (by rw [p];simp [GI.iter]);obtain ⟨z1,rfl,hz1⟩:=pY hz;obtain ⟨z2,rfl,hz2⟩:=sN hz1;obtain ⟨v,cb,rfl,hv,hcb⟩:=ko hz2;obtain ⟨id2,ops2,rfl,hops2⟩:=gO hv rfl;have I:=po hops1;have R:=po hops2;obtain ⟨S1,hS1,q1,hst1,hpq1⟩:=bI hs;have hsz1:ops1.size=S1.length+1:=by rw [←I.1,p,←hS1];simp
 refine wp_seq (wp_region ?_);rw [List.range_eq_range',hsz1,List.range'_1_concat];refine uE (tail:= [0+S1.length]) I hd1 (fun G1 a1 w1 hC1=> ?_) (l:=S1) (k:=0) (fun j x hx=>by rw [p,Nat.zero_add,←hS1,gC1 (gA0 hx).1];exact hx) (by omega) hst1 (hpq1 hp1) hC;have C:l1[0+S1.length]? =some ⟨none,.rng t U x0⟩:=by rw [p,←hS1,Nat.zero_add,gC2 (by simp)];simp
 refine gy I C fun gs o ho=> ?_
 obtain ⟨xo,e1,e2,e3,kt,et,hu⟩:=J2 ho;have hval:a1.eval xo= .map none:=uD (hC1.ev e3 hx0).1;have hrun:=run_range_nilMap (P:=P) w1 t kt et hu
 refine js (v:= .pointer (some ⟨w1.heap.size,0,none⟩)) (w' :=w1.alloc (.mapIter none 0 #[] 0)) (by
  unfold execOp;rw [e1];simp only [hval,Sem.run_bind,hrun,Result.andThen_ok,Sem.run_pure]) e2 ?_
 have hdn0:U<E.n:=dy hd1 C U rfl
 have hC2:Conc E G1 (aG fr1 U (itA w1.heap.size)) st1 (a1.put (some U) (.pointer (some ⟨w1.heap.size,0,none⟩))) (w1.alloc (.mapIter none 0 #[] 0)):=
  (hC1.same ((Below.refl w1.heap.size w1).alloc (gA4 _) _)).put hdn0 ⟨.raw _ rfl,trivial⟩
 obtain ⟨G4,hC4⟩:=h0 w1.heap.size E G1 _ _ hC2;show (Code.block T _).wp P _ _ _;refine wp_block (wp_loop (fun a w=>a=a1.put (some U) (.pointer (some ⟨w1.heap.size,0,none⟩))∧w=w1.alloc (.mapIter none 0 #[] 0)) (fun _ _=>0) ⟨rfl,rfl⟩ ?_);rintro a5 w5 ⟨rfl,rfl⟩;refine wp_seq (wp_region ?_);have hsz2:ops2.size=post.length+1:=by rw [←R.1];simp
 rw [List.range_eq_range',hsz2,List.range'_succ];refine gy R (j:=0) rfl fun gs o ho=> ?_
 obtain ⟨xo2,e4,e5,e6⟩:=J3 ho;have hv2:=uD (hC4.ev e6 (hJ w1.heap.size)).1;have hdn1:d1<E.n:=dy hd2 (k:=0) rfl d1 rfl;have hrn:=run_next_nilMap (P:=P) w1 o.type 0 0 #[];obtain ⟨rs2,rs2',f2,s2,p2,ha,hp2,hK⟩:=hend w1.heap.size;obtain ⟨S2,hS2,q2,hst2,hpq2⟩:=bI ha
 refine js (v:= .tuple #[.bool false]) (w' :=w1.alloc (.mapIter none 0 #[] 0)) (by
  unfold execOp;rw [e4];simp only [hv2,Sem.run_bind,hrn,Result.andThen_ok,Sem.run_pure]) e5 ?_
 have hC6:=hC4.put (v:= .tuple #[.bool false]) (x:= .tup [.bool false]) hdn1 ⟨[.bool false],rfl,rfl,fun j u y hu hy=>by
  rcases j with _|j
  ·simp at hu hy;subst hu hy;exact .of (.bool _)
  ·simp at hu⟩
 have hl:post.length=S2.length:=by rw [←hS2];simp
 rw [hl];refine mw R hd2 (fun G' a' w' hc=> ?_) (l:=S2) (k:=1) (fun j=>by rw [hS2,Nat.add_comm,List.getElem?_cons_succ]) (by omega) hst2 (hpq2 hp2) hC6;show cb.wp P _ a' w';refine wp_mono (hK hdb mu cb G' a' w' hcb hdb hc) fun e a9 w9 ⟨G9,f9,s9,hC9,hQ9⟩=> ?_
 have g:MQ0 P E Q k T e f9 s9:=by cases e<;>exact hQ9
 cases e with
 |exit i=>
  obtain ⟨rfl,hq⟩:=g;simp only [Exit.then,Exit.inBlock];rw [if_pos trivial];exact ⟨_,_,_,hC9,hq⟩
 |normal=>exact (show False from g).elim
 |goto l=>exact (show False from g).elim
 |ret=>exact (show False from g).elim
 |panic ch=>exact (show False from g).elim
 |outgrown=>exact (show False from g).elim
end
end
section
set_option maxRecDepth 100000
set_option maxHeartbeats 20000000
def KA:List Nat:= [2000216,2000213,2000158,2000290,2000289,2000264,2000245,2000215,2000059,2000112,2000058,2000159,2000110,2000105]
noncomputable def bC:ACode:=bK Tryz.prog KA Tryz.f26
noncomputable def eU:AFn:=⟨2,48,bC,[.tmp 4,.tmp 5]⟩
theorem eV:aq Tryz.prog KA Tryz.f26=some eU:=kk
theorem eW:ab Tryz.prog 26=true:=kk
end
end Go.Proofs.YtbgflifmanjpjaaGreatDoor
