/- Part 40. -/
import Derived.Test.YtbgflifmanjpjaaGreatDoorS39
import Derived.Shelf.Strings.SlTrimAscii
set_option linter.unusedSimpArgs false
set_option linter.unusedVariables false
namespace Go.Proofs.YtbgflifmanjpjaaGreatDoor
section
open Go.RowKit
theorem AC.ofB2 {f:FuncId} {x y:ByteArray} {v:Value} {r:AV} (g:ab Tryz.prog f=true) (hr: ∀σ,RelR σ v r) (h: ∀w,Calls Tryz.prog f #[.string x,.string y] w fun e w' =>e= .returned v∧Below w.heap.size w w'):AC Tryz.prog f [.str x,.str y] r:=by
 refine ⟨g,fun σ w vs C i hg=> ?_⟩;obtain ⟨v1,v2,rfl,j,p⟩:=pc i;have j:Rel1 σ v1 (.str x):=j;have p:Rel1 σ v2 (.str y):=p;cases j;cases p;refine (h w).mono ?_;rintro e w' ⟨rfl,hb⟩;exact ⟨σ,_,rfl,Ext.refl _ _,C.on hb,hb,hr σ⟩
theorem K7: ∀(j:Nat) b,(ByteArray.mk #[32,9,10]).data.toList[j]? =some b→b.toNat<128:=Go.Proofs.ascii_of_all (by decide)
theorem BQ (l:Bs):AC Tryz.prog 89 [.str (toB l),.str ⟨#[32,9,10]⟩] (.str (toB (tlw l))):=
 AC.ofB2 (by kernel_rfl) (fun _=>Rel1.str _) fun w=>Any.strings_TrimLeft_laid Tryz.lays161 (by kernel_rfl) (toB l) ⟨#[32,9,10]⟩ w (by decide) K7
theorem LC (l:Bs) (hl:l.length≤1000000):AC Tryz.prog 87 [.str (toB l),.str ⟨#[32,9,10]⟩] (.str (toB (trw l))):=
 AC.ofB2 (by kernel_rfl) (fun _=>Rel1.str _) fun w=>Any.strings_TrimRight_laid Tryz.lays162 (by kernel_rfl) (toB l) ⟨#[32,9,10]⟩ w (by show l.length≤_;omega) (by decide) K7
theorem LD (l:Bs) (hl:l.length≤1000000):AC Tryz.prog 108 [.str (toB l),.str ⟨#[32,9,10]⟩] (.str (toB (tmw l))):=
 AC.ofB2 (by kernel_rfl) (fun _=>Rel1.str _) fun w=>Any.strings_Trim_laid Tryz.lays160 (by kernel_rfl) (toB l) ⟨#[32,9,10]⟩ w (by show l.length≤_;omega) (by decide) K7
def clI:Option Nat→Int
 |none=> -1
 |some e=>e
theorem In (s:Bs) (i:Nat) (hl:s.length≤1000000) (hi:i≤s.length):AC Tryz.prog 106 [.str (toB s),.int .i64 i] (.int .i64 (clI (jX s i))):=by
 have U:=fun k=>rE (toB (s.drop k)) (toB [125,125])
 refine kE Tryz.func106 qW qX fun E hE=> ?_
 refine kW ?_;refine aJ (fun k:Nat=>(ax [(0,.str (toB s)),(5,.int .i64 k)],⟨ah [],fun _=>0⟩)) (fun k=>k≤s.length+4∧ ∃n,s.length<n+k∧gV s n k=jX s i) (fun k=>s.length+4-k) i ⟨by omega,s.length+1,by omega,rfl⟩ (wO ⟨kI,kI,trivial⟩ trivial rfl rfl) fun k hk=> ?_
 obtain ⟨hk,n,hn,r⟩:=hk;refine kW ?_;refine kC (fun hb=> ?_) fun hb=> ?_
 ·have hlt:k<s.length:=by simpa [ae] using hb
  obtain ⟨c,hc⟩: ∃c,s[k]? =some c:=⟨_,gA1 hlt⟩
  have hd:=fR hc;have R:(toB s).data.getD (k:Int).toNat 0=c:=ei (by simpa using hc);obtain ⟨n,rfl⟩: ∃n',n=n' +1:=⟨n-1,by omega⟩
  unfold gV at r;rw [hd] at r;dsimp only at r;have U:=U k;rw [jK,hd] at U;clear hb;refine kW ?_;refine kP [.v (.bool (([125,125]:Bs).isPrefixOf (c::s.drop (k+1))))] ?_ ?_
  ·((repeat' apply aI)<;>first|exact kD|(intro p;refine ⟨?_,kG⟩;(repeat' apply aI)<;>first|exact kD|skip)|skip)
   all_goals first|(rw [ae];omega)|(rw [ba];rw [hd];exact U)|skip
  refine kC (fun hb=> ?_) fun hb=> ?_
  ·rw [if_pos hb] at r
   refine kW ?_;refine aR ⟨_,rfl,?_⟩;rw [←r];rfl
  ·rw [if_neg (by rw [hb];simp)] at r
   clear hb;refine kW ?_;refine kP [] ?_ ?_
   ·((repeat' apply aI)<;>first|exact kD|(intro p;refine ⟨?_,kG⟩;(repeat' apply aI)<;>first|exact kD|skip)|skip)
    all_goals first|(rw [ae];omega)|skip
   rw [R,show (34:Int)=((34:Nat):Int) from rfl,ej c 34 (by omega)];refine kC (fun hb=> ?_) fun hb=> ?_
   ·have C:c=34:=by simpa using hb
    rw [if_pos C] at r;clear hb R;have hw1:IntKind.i64.wrap ((k:Int)+1)=((k+1:Nat):Int):=by rw [aD (by omega) (by omega)];omega
    refine kW ?_;rw [hw1];have hQ:=vH s (s.length+1) (k+1);generalize hq:rK s (s.length+1) (k+1)=Q at*;refine aJ (fun j:Nat=>(ax [(0,.str (toB s)),(5,.int .i64 j)],⟨ah [],fun _=>0⟩)) (fun j=>k+1≤j∧j≤s.length+2∧ ∃m,s.length<m+j∧rK s m j=Q) (fun j=>s.length+4-j) (k+1) ⟨gA4 _,by omega,s.length+1,by omega,hq⟩ (wO ⟨kI,kI,trivial⟩ trivial rfl rfl) fun j hj=> ?_
    obtain ⟨hj0,hj,m,hm,g⟩:=hj;have hwj:IntKind.i64.wrap ((j:Int)+1)=((j+1:Nat):Int):=by rw [aD (by omega) (by omega)];omega
    refine kW ?_;cases hx:s[j]? with
    |none=>
     have I:=List.getElem?_eq_none_iff.1 hx;have hz:decide ((j:Int)<((toB s).size:Int))=false:=by rw [ae];simpa using I
     have e:Q=j:=by
      rw [←g];cases m with
      |zero=>rfl
      |succ m=>
       unfold rK;rw [gB6 I]
     refine kP [] ?_ ?_
     ·((repeat' apply aI)<;>first|exact kD|(intro p;refine ⟨?_,kG⟩;(repeat' apply aI)<;>first|exact kD|skip)|skip)
      all_goals (exfalso;rw [hz] at p;simp [gd] at p)
     rw [hz];refine kC (fun hb=> ?_) fun hb=> ?_
     ·cases hb
     ·refine AK.exit rfl ?_
      refine kW ?_;exact AK.lp ⟨j+1,⟨by omega,n,by omega,by rw [←(show Q=j from e)];exact r⟩,wO ⟨kI,kU,trivial⟩ trivial rfl rfl,by omega⟩
    |some d=>
     have T:=(gA0 hx).1;have hz:decide ((j:Int)<((toB s).size:Int))=true:=by rw [ae];simpa using T
     have J:(toB s).data.getD (j:Int).toNat 0=d:=ei (by simpa using hx);have hd2:=fR hx;refine kP [] ?_ ?_
     ·((repeat' apply aI)<;>first|exact kD|(intro p;refine ⟨?_,kG⟩;(repeat' apply aI)<;>first|exact kD|skip)|skip)
      all_goals (rw [ae];omega)
     rw [hz,J,ej d 34 (by omega)];obtain ⟨m,rfl⟩: ∃m',m=m' +1:=⟨m-1,by omega⟩
     unfold rK at g;rw [hd2] at g;dsimp only at g;refine kC (fun hb=> ?_) fun hb=> ?_
     ·have hne:d≠34:=by simpa using hb
      rw [if_neg hne] at g;clear hb;refine kW ?_;refine kP [] ?_ ?_
      ·((repeat' apply aI)<;>first|exact kD|(intro p;refine ⟨?_,kG⟩;(repeat' apply aI)<;>first|exact kD|skip)|skip)
       all_goals (rw [ae];omega)
      rw [J,show (92:Int)=((92:Nat):Int) from rfl,ej d 92 (by omega)];refine kC (fun hb=> ?_) fun hb=> ?_
      ·have P:d=92:=by simpa using hb
       rw [if_pos P] at g;refine kW ?_;rw [hwj];refine kW ?_;refine AK.lp ⟨j+1+1,⟨by omega,by omega,m,by omega,g⟩,?_,by omega⟩;exact wO ⟨kI,kU,trivial⟩ trivial rfl rfl
      ·have P:d≠92:=by simpa using hb
       rw [if_neg P] at g;refine kW ?_;refine AK.lp ⟨j+1,⟨by omega,by omega,m,by omega,g⟩,?_,by omega⟩;exact wO ⟨kI,kU,trivial⟩ trivial rfl rfl
     ·have C:d=34:=by simpa using hb
      rw [if_pos C] at g;refine AK.exit rfl ?_;refine kW ?_;exact AK.lp ⟨j+1,⟨by omega,n,by omega,by rw [←(show Q=j from g.symm)];exact r⟩,wO ⟨kI,kU,trivial⟩ trivial rfl rfl,by omega⟩
   ·have C:c≠34:=by simpa using hb
    rw [if_neg C] at r;refine kW ?_;refine AK.lp ⟨k+1,⟨by omega,n,by omega,r⟩,?_,by omega⟩;exact wO ⟨kI,kU,trivial⟩ trivial rfl rfl
 ·have I:s.length≤k:=by simpa [ae] using hb
  have e:jX s i=none:=by
   rw [←r];cases n with
   |zero=>rfl
   |succ n=>
    unfold gV;rw [gB6 I]
  rw [e];clear hb;refine AK.exit rfl ?_;refine kW ?_;refine aR ⟨_,rfl,?_⟩;rfl
def CQK {κ:Type} (K:κ→Prop) (g:κ→Fr) (s0:κ→St):Exit→Fr→St→Prop
 | .normal=>fun f s=> ∀(E:Env) (G:Gho) (a:Act) (w:World),Conc E G f s a w→ ∃i,K i∧ ∃G',Conc E G' (g i) (s0 i) a w
 |_=>fun _ _=>False
theorem AK.cutK {P:Program} {E:Env} {Q:Exit→Fr→St→Prop} {k:List AItem} {fr:Fr} {st:St} {a:ACode} {κ:Type} (K:κ→Prop) (j:κ→Fr) (s0:κ→St) (I:AK P E (CQK K j s0) [.c a] fr st) (J: ∀i,K i→AK P E Q k (j i) (s0 i)):AK P E Q (.c a::k) fr st:=by
 intro R mu c G T w U p hC;refine wp_mono (I R mu c G T w U p hC) fun e a2 w2 ⟨G3,f,s,r,g⟩=> ?_
 cases e with
 |normal=>
  obtain ⟨i,hi,G4,C⟩:=(show∀(E:Env) (G:Gho) (a:Act) (w:World),Conc E G f s a w→ ∃i,K i∧ ∃G',Conc E G' (j i) (s0 i) a w from g) E G3 a2 w2 r;exact ⟨G4,j i,s0 i,C,J i hi⟩
 |exit id=>exact (show False from g).elim
 |goto l=>exact (show False from g).elim
 |ret=>exact (show False from g).elim
 |panic ch=>exact (show False from g).elim
 |outgrown=>exact (show False from g).elim
theorem cE {P:Program} {E:Env} {fr:Fr} {st:St} {κ:Type} {K:κ→Prop} {g:κ→Fr} {s0:κ→St} (h: ∃i,K i∧Weak fr st (g i) (s0 i)):AK P E (CQK K g s0) [] fr st:=by
 obtain ⟨i,hi,j⟩:=h;exact fun E G a w p=>⟨i,hi,j E G a w p⟩
theorem cO {P:Program} {E:Env} {fr:Fr} {st:St} {κ:Type} {K:κ→Prop} {r:κ→Fr} {s0:κ→St} (s d id:Nat) {esz:Nat} {rows:List (List AV)} (C:fr s=some (.frs d esz rows)) (hid:1000000≤id) (g:st.box id=none)
  (h: ∀cap m,rows.length≤cap→(rows.flatten++List.replicate m AV.top).length=cap*esz→ ∃i,K i∧Weak (Fg d id cap fr) (Fh d id cap (rows.flatten++List.replicate m AV.top) st) (r i) (s0 i)) (j:id<2000000:=by omega) (hmp:dX id=false:=by rfl):AK P E (CQK K r s0) [] fr st:=fun E G a w I=>by
 obtain ⟨cap,m,J,R,G',p⟩:=I.open s d id C hid g j hmp;obtain ⟨i,hi,T⟩:=h cap m J R;exact ⟨i,hi,T E G' a w p⟩
def AV.cln:AV→Bool
 | .int _ _| .bool _| .str _| .top=>true
 | .lst .any _ _=>true
 |_=>false
abbrev rowB (rows:List (List AV)) (m:Nat):List AV:=rows.flatten++List.replicate m AV.top
def Cln (rows:List (List AV)):Prop:= ∀r∈rows,∀c∈r,c.cln=true
theorem Cln.mem {rows:List (List AV)} (h:Cln rows) {m:Nat} {c:AV} (g:c∈rowB rows m):c.cln=true:=by
 rcases gB5 g with g|g
 ·obtain ⟨r,hr,i⟩:=List.mem_flatten.1 g
  exact h r hr c i
 ·rw [(List.mem_replicate.1 g).2]
  rfl
theorem Cln.map {rows:List (List AV)} (h:Cln rows) {g:AV→AV} (hg: ∀a:AV,a.cln=true→g a=a) (m:Nat):(rowB rows m).map g=rowB rows m:=
 (List.map_congr_left fun c i=>hg c (h.mem i)).trans (List.map_id _)
theorem Cln.all {rows:List (List AV)} (h:Cln rows) {g:AV→Bool} (hg: ∀a:AV,a.cln=true→g a=true) (m:Nat):(rowB rows m).all g=true:=List.all_eq_true.2 fun c i=>hg c (h.mem i)
theorem Io {a:AV} (h:a.cln=true):a.told=a:=by
 cases a with
 |lst t e l=>cases t<;>first|rfl|cases h
 |_=>first|rfl|cases h
theorem JO (N:List Nat) {a:AV} (h:a.cln=true):eI N a=a:=by cases a<;>first|rfl|cases h
theorem JP (ρ:Nat→Nat) {a:AV} (h:a.cln=true):a.ren ρ=a:=by cases a<;>first|rfl|cases h
theorem JQ (ids:List Nat) {a:AV} (h:a.cln=true):a.inS ids=true:=by
 cases a with
 |lst t e l=>cases t<;>first|rfl|cases h
 |_=>first|rfl|cases h
theorem Ip {a:AV} (h:a.cln=true):a.okIn=true:=by
 cases a with
 |lst t e l=>cases t<;>first|rfl|cases h
 |_=>first|rfl|cases h
theorem F5 {a:AV} (h:a.cln=true):a.noFrs=true:=by cases a<;>first|rfl|cases h
theorem Cln.told {rows:List (List AV)} (h:Cln rows) (m:Nat):(rowB rows m).map AV.told=rowB rows m:=h.map (fun _=>Io) m
theorem Cln.clr {rows:List (List AV)} (h:Cln rows) (N:List Nat) (m:Nat):(rowB rows m).map (eI N)=rowB rows m:=h.map (fun _=>JO N) m
theorem Cln.ren {rows:List (List AV)} (h:Cln rows) (ρ:Nat→Nat) (m:Nat):(rowB rows m).map (AV.ren ρ)=rowB rows m:=h.map (fun _=>JP ρ) m
theorem Cln.inS {rows:List (List AV)} (h:Cln rows) (ids:List Nat) (m:Nat):(rowB rows m).all (AV.inS ids)=true:=h.all (fun _=>JQ ids) m
theorem Cln.okIn {rows:List (List AV)} (h:Cln rows) (m:Nat):(rowB rows m).all AV.okIn=true:=h.all (fun _=>Ip) m
theorem Cln.noFrs {rows:List (List AV)} (h:Cln rows) (m:Nat):(rowB rows m).all AV.noFrs=true:=h.all (fun _=>F5) m
theorem MSX.impY {ι κ:Type} {P:Program} {f:FuncId} {S:List (Nat×List AV)} {args:List AV} {I:ι→Prop} {S' :ι→List (Nat×List AV)} {r:ι→AV} {J:κ→Prop} {j:κ→List (Nat×List AV)} {r' :κ→AV} (h:MSX P f S args I S' r) (g:ι→κ) (p: ∀i,I i→J (g i)) (C: ∀i,j (g i)=S' i) (hr: ∀i,r' (g i)=r i):MSX P f S args J j r' :=
 ⟨h.cb,fun σ w B vs R T U h4 h5 h6 h7=>(h.run σ w B vs R T U h4 h5 h6 h7).mono fun e w' ⟨i,hi,hh⟩=>⟨g i,p i hi,by rw [C,hr];exact hh⟩⟩
theorem MS.toY {κ:Type} {P:Program} {f:FuncId} {S S' :List (Nat×List AV)} {args:List AV} {r:AV} {J:κ→Prop} {g:κ→List (Nat×List AV)} {r' :κ→AV} (h:MS P f S args S' r) (i:κ) (j:J i) (p:g i=S') (hr:r' i=r):MSX P f S args J g r' :=
 ⟨h.cb,fun σ w B vs C I R T U h6 h7=>(h.run σ w B vs C I R T U h6 h7).mono fun e w' hh=>⟨i,j,by rw [p,hr];exact hh⟩⟩
def swY (a b i:Nat):Nat:=if i=a then b else if i=b then a else i
theorem bp {a b:Nat} (i j:Nat) (h:swY a b i=swY a b j):i=j:=by
 unfold swY at h
 repeat' split at h
 all_goals omega
theorem bM {a b:Nat} (g:kd a=kd b) (i:Nat):kd (swY a b i)=kd i:=by
 unfold swY;split
 ·rename_i h;rw [h,g]
 ·split
  ·rename_i h;rw [h,g]
  ·rfl
theorem BR (c:UInt8) (n:Nat) (hn:n<256):decide ((c.toNat:Int)≤(n:Int))=decide (c≤n.toUInt8):=by
 rw [Bool.eq_iff_iff,gB0,gB0,UInt8.le_iff_toNat_le];simp [Nat.mod_eq_of_lt hn]
theorem BS (c:UInt8) (n:Nat) (hn:n<256):decide ((c.toNat:Int)≥(n:Int))=decide (n.toUInt8≤c):=by
 rw [Bool.eq_iff_iff,gB0,gB0,UInt8.le_iff_toNat_le];simp [Nat.mod_eq_of_lt hn]
theorem i6 (c:UInt8):AC Tryz.prog 210 [.int .u8 c.toNat] (.bool (gI c)):=by
 refine kE Tryz.func210 px py fun E g=> ?_
 refine kW ?_;refine kQ [] ?_;refine kW ?_;refine aR ⟨_,rfl,?_⟩;refine congrArg AV.bool ?_;rw [show ((97:Int))=((97:Nat):Int) from rfl,show ((122:Int))=((122:Nat):Int) from rfl,show ((65:Int))=((65:Nat):Int) from rfl,show ((90:Int))=((90:Nat):Int) from rfl,show ((95:Int))=((95:Nat):Int) from rfl,BS c 97 (by omega),BR c 122 (by omega),BS c 65 (by omega),BR c 90 (by omega),ej c 95 (by omega)];rfl
theorem EK (c:UInt8):AC Tryz.prog 209 [.int .u8 c.toNat] (.bool (mO c)):=by
 have h:=i6 c;refine kE Tryz.func209 sS sT fun E g=> ?_
 refine kW ?_;refine kQ [.v (.bool (gI c))] ?_;refine kW ?_;refine aR ⟨_,rfl,?_⟩;refine congrArg AV.bool ?_;rw [show ((48:Int))=((48:Nat):Int) from rfl,show ((57:Int))=((57:Nat):Int) from rfl,BS c 48 (by omega),BR c 57 (by omega)];rfl
abbrev rdC (r:RD):List AV:= [.str (toB r.s),.int .i64 r.deep,.int .i64 r.bad]
abbrev rdS (r:RD):List (Nat×List AV):= [(2000000,rdC r)]
abbrev exN (x:EX):AV:= .agg (exH x.kind x.v x.name x.steps++ [.lst .nil 10 []])
theorem gX (r:RD) (e:Int):MS Tryz.prog 216 (rdS r) [.np 2000000 0,.int .i64 e] (rdS (r.fail e)) (exN EX.null):=by
 refine MS.enterE Tryz.func216 jR jS (by rfl) (by rfl) fun E j=> ?_
 show AK _ _ _ [.c dw] _ _;rw [dw];refine kW ?_;refine kC (fun hb=> ?_) fun hb=> ?_
 ·have g:r.bad=0:=by simpa using hb
  have i:r.fail e=⟨[],r.deep,e⟩:=by unfold RD.fail;rw [if_pos g]
  rw [i];refine kW ?_;exact aR ⟨⟨_,rfl,rfl⟩,⟨_,rfl,rfl⟩,trivial⟩
 ·have g: ¬r.bad=0:=by simpa using hb
  have i:r.fail e=⟨[],r.deep,r.bad⟩:=by unfold RD.fail;rw [if_neg g]
  rw [i];refine kW ?_;exact aR ⟨⟨_,rfl,rfl⟩,⟨_,rfl,rfl⟩,trivial⟩
theorem mh (r:RD):MS Tryz.prog 213 (rdS r) [.np 2000000 0] (rdS r.skip) (.tup []):=by
 have h:=BQ r.s;refine MS.enter Tryz.func213 jT jU (by rfl) (by rfl) fun E g=> ?_
 show AK _ _ _ [.c dx] _ _;rw [dx];refine kW ?_;refine kQ [.v (.str (toB (tlw r.s)))] ?_;show RQS _ _ _ .normal _ _;exact ⟨⟨_,rfl,rfl⟩,⟨_,rfl,rfl⟩,trivial⟩
theorem zw {p:UInt8→Bool}: ∀{t:Bs} {k:Nat},k≤(t.takeWhile p).length→(match t[k]? with|none=>false|some c=>p c)=decide (k<(t.takeWhile p).length)
 | [],k,_=>by simp
 |c::t,0,_=>by
  by_cases h:p c=true
  ·simp [List.takeWhile,h]
  ·simp [List.takeWhile,h]
 |c::t,k+1,g=>by
  by_cases h:p c=true
  ·have e:(c::t).takeWhile p=c::t.takeWhile p:=by simp [List.takeWhile,h]
   rw [e,gA3] at g⊢;have:=zw (p:=p) (t:=t) (k:=k) (by omega);simp only [List.getElem?_cons_succ,this];simp
  ·have e:(c::t).takeWhile p= []:=by simp [List.takeWhile,h]
   rw [e] at g;simp at g
theorem Iq {c:UInt8} (h:gI c=true):mO c=true:=by unfold mO;rw [h];rfl
theorem EL {s:Bs} {k:Nat} (g:k≤(nmL s).length):(match s[k]? with|none=>false|some c=>mO c&&(decide (0<k)||gI c))=decide (k<(nmL s).length):=by
 cases s with
 |nil=>simp [nmL]
 |cons c t=>
  by_cases h:gI c=true
  ·have e:nmL (c::t)=c::t.takeWhile mO:=by unfold nmL;dsimp only;rw [if_pos h]
   rw [e,gA3] at g⊢;cases k with
   |zero=>simp [Iq h,h]
   |succ k=>
    have:=zw (p:=mO) (t:=t) (k:=k) (by omega);simp only [List.getElem?_cons_succ];cases ht:t[k]? with
    |none=>rw [ht] at this;simp at this⊢;omega
    |some d=>rw [ht] at this;simp at this⊢;exact this
  ·have e:nmL (c::t)= []:=by unfold nmL;dsimp only;rw [if_neg h]
   rw [e] at g⊢;have:k=0:=by simpa using g
   subst this;simp [h]
def atP (p:UInt8→Bool) (s:Bs) (k:Nat):Bool:=match s[k]? with
 |none=>false
 |some c=>p c
theorem qZ {p:UInt8→Bool} {s:Bs} {k:Nat} {c:UInt8} (h:s[k]? =some c):atP p s k=p c:=by unfold atP;rw [h]
theorem DE (s:Bs) (k:Nat):decide ((k:Int)<((toB s).size:Int))=s[k]?.isSome:=by
 rw [ae];cases h:s[k]? with
 |none=>
  have:=List.getElem?_eq_none_iff.1 h;simp;omega
 |some c=>
  have:=(gA0 h).1;simp;omega
theorem Ir {s:Bs} {k:Nat} (h:decide ((k:Int)<((toB s).size:Int))=true): ∃c,s[k]? =some c∧(toB s).data.getD (k:Int).toNat 0=c:=by
 rw [DE] at h;obtain ⟨c,g⟩:=Option.isSome_iff_exists.1 h;exact ⟨c,g,ei (by simpa using g)⟩
theorem JR {s:Bs} {k:Nat} (g:k≤(nmL s).length):(decide ((k:Int)<((toB s).size:Int))&&atP mO s k&&(decide ((k:Int)>0)||atP gI s k))=decide (k<(nmL s).length):=by
 rw [←EL g,DE];unfold atP;cases s[k]? with
 |none=>rfl
 |some c=>
  have:decide ((k:Int)>0)=decide (0<k):=by simp
  rw [this];rfl
theorem EM (s:Bs):s.take (nmL s).length=nmL s:=by
 cases s with
 |nil=>rfl
 |cons c t=>
  unfold nmL;dsimp only;split
  ·rw [gA3,List.take_succ_cons]
   congr 1;exact (List.prefix_iff_eq_take.1 (List.takeWhile_prefix mO)).symm
  ·rfl
theorem fM (r:RD) (hl:r.s.length≤1000000):MS Tryz.prog 158 (rdS r) [.np 2000000 0] (rdS (r.to (r.s.drop (nmL r.s).length))) (.str (toB (nmL r.s))):=by
 have j:=fL r.s;refine MS.enter Tryz.func158 jV jW (by rfl) (by rfl) fun E R=> ?_
 show AK _ _ _ [.c dy] _ _;rw [dy];refine kW ?_;refine aJ (fun k:Nat=>(ax [(0,.np 2000000 0),(3,.int .i64 k)],⟨ah [(2000000,rdC r,false)],fun _=>0⟩)) (fun k=>k≤(nmL r.s).length) (fun k=>(nmL r.s).length-k) 0 (gB8 _) (wN ⟨kI,kI,trivial⟩ ⟨kJ,trivial⟩ rfl rfl ⟨rfl,trivial⟩) fun k J=> ?_
 have i:=JR J;refine kW ?_;refine kP [.v (.bool (atP mO r.s k)),.v (.bool (atP gI r.s k))] ?_ ?_
 ·((repeat' apply aI)<;>first|exact kD|(intro g;refine ⟨?_,kG⟩;(repeat' apply aI)<;>first|exact kD|skip)|skip)
  all_goals obtain ⟨c,I,p⟩:=Ir (s:=r.s) (k:=k) (by first|exact g|(simp only [gd,gA9] at g;exact g.1.1))
  all_goals have P:=(gA0 I).1
  all_goals first
   |(rw [ae];omega)
   |(rw [p,qZ I];exact EK c)
   |(rw [p,qZ I];exact i6 c)
 refine kC (fun hb=> ?_) fun hb=> ?_
 ·have C:k<(nmL r.s).length:=by
   have h:(decide ((k:Int)<((toB r.s).size:Int))&&atP mO r.s k&&(decide ((k:Int)>0)||atP gI r.s k))=true:=hb;rw [i] at h;simpa using h
  refine kW ?_;exact AK.lp ⟨k+1,by omega,wN ⟨kI,kU,trivial⟩ ⟨kJ,trivial⟩ rfl rfl ⟨rfl,trivial⟩,by omega⟩
 ·have C:k=(nmL r.s).length:=by
   have h:(decide ((k:Int)<((toB r.s).size:Int))&&atP mO r.s k&&(decide ((k:Int)>0)||atP gI r.s k))=false:=hb;rw [i] at h;have: ¬k<(nmL r.s).length:=by simpa using h
   omega
  have ht:=EM r.s;rw [←C] at ht j⊢;clear hb i;refine AK.exit rfl ?_;refine kW ?_;refine kP [] ?_ ?_
  ·((repeat' apply aI)<;>first|exact kD|(intro g;refine ⟨?_,kG⟩;(repeat' apply aI)<;>first|exact kD|skip)|skip)
   all_goals first|omega|(rw [ae];omega)
  refine kW ?_;refine kP [] ?_ ?_
  ·((repeat' apply aI)<;>first|exact kD|(intro g;refine ⟨?_,kG⟩;(repeat' apply aI)<;>first|exact kD|skip)|skip)
   all_goals first|omega|(rw [ae];omega)
  refine kW ?_;refine aR ⟨⟨_,rfl,?_⟩,⟨_,rfl,?_⟩,trivial⟩
  ·rw [fJ _ _ j,ht]
   rfl
  ·rw [ba]
   rfl
abbrev psJ (r:RD):Nat×List ByteArray×Bs×(Nat→Nat)→Fr×St:=fun x=>(ax [(0,.np 2000000 0),(3,.lst (.own 38 (x.2.2.2 38)) 1 (bJ x.2.1))],⟨ah [(2000000,[.str (toB x.2.2.1),.int .i64 r.deep,.int .i64 r.bad],false)],x.2.2.2⟩)
theorem F6 (l:List ByteArray) (s:ByteArray):bJ (l++ [s])=bJ l++ [[.str s]]:=by simp [bJ]
theorem j0 (n:Nat) (d c:UInt8) (t:Bs):be (n+1) (d::c::t)=if d=46∧gI c=true then (toB (nmL (c::t))::(be n ((c::t).drop (nmL (c::t)).length)).1,(be n ((c::t).drop (nmL (c::t)).length)).2) else ([],d::c::t):=rfl
theorem BT (r:RD) (hl:r.s.length≤1000000):MS Tryz.prog 290 (rdS r) [.np 2000000 0] (rdS (r.to (be r.s.length r.s).2)) (.lst .any 1 (bJ (be r.s.length r.s).1)):=by
 refine MS.enter Tryz.func290 iV iW (by rfl) (by rfl) fun E hE=> ?_
 show AK _ _ _ [.c cV] _ _;rw [cV];refine kW ?_;refine aJ (psJ r) (fun x=>x.2.2.1.length≤x.1∧x.2.2.1.length+x.2.1.length≤r.s.length∧x.2.1++(be x.1 x.2.2.1).1=(be r.s.length r.s).1∧(be x.1 x.2.2.1).2=(be r.s.length r.s).2) (fun x=>x.2.2.1.length) (r.s.length,[],r.s,fun _=>0) ⟨gA4 _,by simp,by simp,rfl⟩ (wN ⟨kI,⟨_,rfl,.one (.own _ _ _ _)⟩,trivial⟩ ⟨kJ,trivial⟩ rfl rfl ⟨rfl,trivial⟩) fun ⟨n,out,s,w⟩ T=> ?_
 obtain ⟨hn,i,P,R⟩:=T;dsimp only at hn i P R;rw [←P,←R];show AK _ _ _ _ (ax _) _;refine kW ?_;rcases s with _|⟨d,_|⟨c,t⟩⟩
 ·have e:be n []=([],[]):=by cases n<;>rfl
  rw [e,List.append_nil];refine kP [.v (.bool false)] ?_ ?_
  ·((repeat' apply aI)<;>first|exact kD|(intro g;refine ⟨?_,kG⟩;(repeat' apply aI)<;>first|exact kD|skip)|skip)
   all_goals (exfalso;simp [gd,ae] at g)
  refine kC (fun hb=> ?_) fun hb=> ?_
  ·simp [ae] at hb
  ·refine AK.exit rfl ?_
   refine kW ?_;exact aR ⟨⟨_,rfl,rfl⟩,⟨_,rfl,rfl⟩,trivial⟩
 ·have e:be n [d]=([],[d]):=by cases n<;>rfl
  rw [e,List.append_nil];refine kP [.v (.bool false)] ?_ ?_
  ·((repeat' apply aI)<;>first|exact kD|(intro g;refine ⟨?_,kG⟩;(repeat' apply aI)<;>first|exact kD|skip)|skip)
   all_goals (exfalso;simp [gd,ae] at g)
  refine kC (fun hb=> ?_) fun hb=> ?_
  ·simp [ae] at hb
  ·refine AK.exit rfl ?_
   refine kW ?_;exact aR ⟨⟨_,rfl,rfl⟩,⟨_,rfl,rfl⟩,trivial⟩
 ·have j:(toB (d::c::t)).data.getD (0:Int).toNat 0=d:=ei (k:=0) rfl
  have p:(toB (d::c::t)).data.getD (1:Int).toNat 0=c:=ei (k:=1) rfl;have U:decide (((toB (d::c::t)).size:Int)>1)=true:=by rw [ae,gA3,gA3,gB0];omega
  have C:=i6 c;refine kP [.v (.bool (gI c))] ?_ ?_
  ·((repeat' apply aI)<;>first|exact kD|(intro g;refine ⟨?_,kG⟩;(repeat' apply aI)<;>first|exact kD|skip)|skip)
   all_goals first|(rw [ae];simp;omega)|(rw [ae,gA3,gA3];omega)|(rw [p];exact C)|skip
  rw [U,j,show (46:Int)=((46:Nat):Int) from rfl,ej d 46 (by omega)];obtain ⟨n,rfl⟩: ∃n',n=n' +1:=⟨n-1,by simp only [gA3] at hn;omega⟩
  simp only [gA3] at hn i;rw [j0];refine kC (fun hb=> ?_) fun hb=> ?_
  ·have I:d=46∧gI c=true:=by simpa using hb
   rw [if_pos I];have hnm:=fM (r.to (c::t)) (by show (c::t).length≤_;rw [gA3];omega);have hnp:=gW (zu (t:=t) I.2);have J:=fL (c::t);rw [gA3] at J;clear hb;refine kW ?_;refine kP [] ?_ ?_
   ·((repeat' apply aI)<;>first|exact kD|(intro g;refine ⟨?_,kG⟩;(repeat' apply aI)<;>first|exact kD|skip)|skip)
    all_goals first|omega|(rw [ae,gA3,gA3];omega)
   rw [show ((1:Int)).toNat=((1:Nat):Int).toNat from rfl,ba,show (d::c::t).drop 1=c::t from rfl];refine kW ?_;refine kP [.s [2000000] (rdS (r.to ((c::t).drop (nmL (c::t)).length))) (.str (toB (nmL (c::t))))] ?_ ?_
   ·((repeat' apply aI)<;>first|exact kD|(intro g;refine ⟨?_,kG⟩;(repeat' apply aI)<;>first|exact kD|skip)|skip)
    all_goals simp only [dh,List.length_nil,gA3]
    all_goals omega
   refine kW ?_;refine AK.lp ⟨(n,out++ [toB (nmL (c::t))],(c::t).drop (nmL (c::t)).length,_),⟨?_,?_,?_,?_⟩,wN ⟨kI,⟨_,rfl,.of_eq (congrArg (AV.lst _ 1) (F6 _ _).symm)⟩,trivial⟩ ⟨kJ,trivial⟩ rfl rfl ⟨rfl,trivial⟩,?_⟩
   ·dsimp only;rw [gA6,gA3];omega
   ·dsimp only;rw [gA6,gA3,gA5,List.length_singleton];omega
   ·dsimp only;exact List.append_assoc _ _ _
   ·rfl
   ·simp only [gA6,gA3];omega
  ·have I: ¬(d=46∧gI c=true):=by simpa using hb
   rw [if_neg I,List.append_nil];clear hb;refine AK.exit rfl ?_;refine kW ?_;exact aR ⟨⟨_,rfl,rfl⟩,⟨_,rfl,rfl⟩,trivial⟩
theorem LE (s:Bs) (k:Nat):(decide ((k:Int)<((toB s).size:Int))&&decide ((((toB s).data.getD (k:Int).toNat 0).toNat:Int)≥48)&&decide ((((toB s).data.getD (k:Int).toNat 0).toNat:Int)≤57))=(decide ((k:Int)<((toB s).size:Int))&&atP (fun c=>decide (48≤c)) s k&&atP (fun c=>decide (c≤57)) s k):=by
 cases h:decide ((k:Int)<((toB s).size:Int)) with
 |false=>rfl
 |true=>
  obtain ⟨c,i,g⟩:=Ir h;rw [g,qZ i,qZ i,show ((48:Int))=((48:Nat):Int) from rfl,show ((57:Int))=((57:Nat):Int) from rfl,BS c 48 (by omega),BR c 57 (by omega)];rfl
theorem BU (c d:Int):AC Tryz.prog 212 [.lst .any 1 [[.int .i64 c],[.int .i64 d]]] (.int .i64 (if c=0 then d else c)):=by
 refine kE Tryz.func212 pz pA fun E r=> ?_
 refine kW ?_;refine aJ (fun k:Nat=>(ax [(3,.int .i64 0),(6,.lst .any 1 [[.int .i64 c],[.int .i64 d]]),(7,.int .i64 2),(8,.int .i64 k)],⟨ah [],fun _=>0⟩)) (fun k=>k≤2∧(0<k→c=0)∧(1<k→d=0)) (fun k=>2-k) 0 ⟨by omega,by omega,by omega⟩ (wO ⟨kI,kI,kI,kI,trivial⟩ trivial rfl rfl) fun k ⟨C,j,p⟩=> ?_
 refine kW ?_;refine kC (fun hb=> ?_) fun hb=> ?_
 ·have g:k<2:=by
   have:(k:Int)<2:=by simpa using hb
   omega
  obtain ⟨n,hn,i⟩: ∃n,[[AV.int IntKind.i64 c],[AV.int IntKind.i64 d]][k]? =some [.int .i64 n]∧(n≠0→(if c=0 then d else c)=n)∧(n=0→(0<k+1→c=0)∧(1<k+1→d=0)):=by
   obtain rfl|rfl:k=0∨k=1:=by omega
   ·exact ⟨c,rfl,fun h=>by rw [if_neg h],fun h=>⟨fun _=>h,fun h=>by omega⟩⟩
   ·have:=j (by omega)
    exact ⟨d,rfl,fun h=>by rw [if_pos this],fun h=>⟨fun _=>this,fun _=>h⟩⟩
  refine kW ?_;refine kQ [.c [.int .i64 n]] ?_;refine kW ?_;refine kC (fun hb=> ?_) fun hb=> ?_
  ·have h:n≠0:=by simpa using hb
   refine kW ?_;refine aR ⟨_,rfl,?_⟩;exact congrArg (AV.int _) (i.1 h).symm
  ·have h:n=0:=by simpa using hb
   refine kW ?_;exact AK.lp ⟨k+1,⟨by omega,(i.2 h).1,(i.2 h).2⟩,wO ⟨kI,kI,kI,kU,trivial⟩ trivial rfl rfl,by omega⟩
 ·have g:k=2:=by
   have:(2:Int)≤k:=by simpa using hb
   omega
  subst g;refine AK.exit rfl ?_;refine kW ?_;refine aR ⟨_,rfl,?_⟩;exact congrArg (AV.int _) (by rw [if_pos (j (by omega)),p (by omega)])
theorem JS {c:UInt8} {t:Bs} {k:Nat} (i:1≤k) (g:k≤gJ (c::t)):(decide ((k:Int)<((toB (c::t)).size:Int))&&atP (fun c=>decide (48≤c)) (c::t) k&&atP (fun c=>decide (c≤57)) (c::t) k)=decide (k<gJ (c::t)):=by
 rw [DE];obtain ⟨k,rfl⟩: ∃k',k=k' +1:=⟨k-1,by omega⟩
 have hn:gJ (c::t)=1+(t.takeWhile wF).length:=rfl;rw [hn] at g⊢;have h:=zw (p:=wF) (t:=t) (k:=k) (by omega)
 have e:decide (k+1<1+(t.takeWhile wF).length)=decide (k<(t.takeWhile wF).length):=by
  rw [Bool.eq_iff_iff,gB0,gB0];omega
 rw [e,←h];unfold atP;rw [List.getElem?_cons_succ];cases t[k]? with
 |none=>rfl
 |some d=>rfl
abbrev exZ:List AV:= [.int .i64 0,.int .i64 0,.bool false,.int .i64 0,.str ⟨#[]⟩,.lst .nil 6 [],.lst .nil 7 [],.str ⟨#[]⟩,.lst .nil 1 [],.lst .nil 10 []]
theorem F7 (r:RD) (hl:r.s.length≤1000000) {c:UInt8} {t:Bs} (C:r.s=c::t):MS Tryz.prog 289 (rdS r) [.np 2000000 0] (rdS (qT r).2) (exN (qT r).1):=by
 obtain ⟨s,I,J⟩:=r;have C:s=c::t:=C;subst C;have hl:(c::t).length≤1000000:=hl;have P:=BK (c::t);have R:=JL (c:=c) (t:=t);have j:=yQ (toB ((c::t).take (gJ (c::t)))) (by rw [ae,gA7];omega);refine MS.enterE Tryz.func289 ib ic (by rfl) (by rfl) fun E hE=> ?_
 show AK _ _ _ [.c cF] _ _;rw [cF];refine kW ?_;refine aJ (fun k:Nat=>(ax [(0,.np 2000000 0),(2,.ptr 2 0),(3,.int .i64 k)],⟨ah [(2,exZ,false),(2000000,[.str (toB (c::t)),.int .i64 I,.int .i64 J],false)],fun _=>0⟩)) (fun k=>1≤k∧k≤gJ (c::t)) (fun k=>gJ (c::t)-k) 1 ⟨gA4 _,P⟩ (wN ⟨kI,kI,kI,trivial⟩ ⟨kJ,kJ,trivial⟩ rfl rfl ⟨rfl,trivial⟩) fun k ⟨T,hk⟩=> ?_
 have i:=(LE (c::t) k).trans (JS T hk);refine kW ?_;refine kP [] ?_ ?_
 ·((repeat' apply aI)<;>first|exact kD|(intro g;refine ⟨?_,kG⟩;(repeat' apply aI)<;>first|exact kD|skip)|skip)
  all_goals (obtain ⟨d,hc,hat⟩:=Ir (s:=c::t) (k:=k) (by first|exact g|(simp only [gd,gA9] at g;exact g.1));have hlt:=(gA0 hc).1;first|omega|(rw [ae];omega))
 refine kC (fun hb=> ?_) fun hb=> ?_
 ·have p:k<gJ (c::t):=gB3 (i.symm.trans hb)
  clear hb i;refine kW ?_;exact AK.lp ⟨k+1,⟨by omega,by omega⟩,wN ⟨kI,kI,kU,trivial⟩ ⟨kJ,kJ,trivial⟩ rfl rfl ⟨rfl,trivial⟩,by omega⟩
 ·have p:k=gJ (c::t):=by
   have: ¬k<gJ (c::t):=gB4 (i.symm.trans hb);omega
  subst p;clear hb i;refine AK.exit rfl ?_;refine kW ?_;refine kP [.v (.tup [vA (bn (toB ((c::t).take (gJ (c::t))))).1,.int .i64 (bn (toB ((c::t).take (gJ (c::t))))).2])] ?_ ?_
  ·((repeat' apply aI)<;>first|exact kD|(intro g;refine ⟨?_,kG⟩;(repeat' apply aI)<;>first|exact kD|skip)|skip)
   all_goals first|omega|(rw [ae];omega)|(rw [fJ _ _ R];exact j)
  clear j;unfold qT;dsimp only;generalize bn (toB ((c::t).take (gJ (c::t))))=q;obtain ⟨v,e⟩:=q;dsimp only;refine kW ?_;refine kQ [] ?_;refine kC (fun hb=> ?_) fun hb=> ?_
  ·have U:e≠0∨v.kind≠2:=by simpa using hb
   clear hb;rw [if_pos U];have hor:=BU e 20;have hfl:=gX ⟨c::t,I,J⟩ (if e=0 then 20 else e);refine kW ?_;refine kQ [.v (.int .i64 (if e=0 then 20 else e)),.s [2000000] (rdS ((⟨c::t,I,J⟩:RD).fail (if e=0 then 20 else e))) (exN EX.null)] ?_;refine kW ?_;exact aR ⟨⟨_,rfl,rfl⟩,⟨_,rfl,rfl⟩,trivial⟩
  ·have U: ¬(e≠0∨v.kind≠2):=by simpa using hb
   clear hb;rw [if_neg U];refine kW ?_;refine kP [] ?_ ?_
   ·((repeat' apply aI)<;>first|exact kD|(intro g;refine ⟨?_,kG⟩;(repeat' apply aI)<;>first|exact kD|skip)|skip)
    all_goals first|omega|(rw [ae];omega)
   rw [ba];refine kW ?_;exact aR ⟨⟨_,rfl,rfl⟩,⟨_,rfl,rfl⟩,trivial⟩
end
section
set_option maxRecDepth 100000
set_option maxHeartbeats 20000000
def EN:List Nat:= [2000216,2000213,2000158,2000290,2000289,2000264,2000245,2000215,2000059,2000112,2000058,2000159,2000110,2000105,5000030]
noncomputable def ci:ACode:=bK Tryz.prog EN Tryz.f264
noncomputable def i7:AFn:=⟨1,182,ci,[.cell 2 10 true,.tmp 3]⟩
theorem gC:ar Tryz.prog EN Tryz.f264=some i7:=kk
theorem gD:ab Tryz.prog 264=true:=kk
end
end Go.Proofs.YtbgflifmanjpjaaGreatDoor
