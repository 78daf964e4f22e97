/- Part 51. -/
import Derived.Test.YtbgflifmanjpjaaGreatDoorS50
set_option linter.unusedSimpArgs false
set_option linter.unusedVariables false
namespace Go.Proofs
open Go.Shelf
def Tryz.lays246_ren:Go.Shelf.Ren:=⟨fun|246=>282|283=>306|284=>307|285=>308|286=>309|129=>196|317=>319|318=>320|319=>321|320=>322|337=>325|338=>326|n=>n,fun|2=>2|3=>3|9=>9|4=>4|171=>322|0=>0|53=>236|37=>118|5=>5|173=>324|212=>339|51=>234|20=>20|213=>340|46=>178|232=>343|233=>344|n=>n,fun|17=>7|18=>8|19=>9|n=>n⟩
theorem Tryz.lays246:Go.Proofs.Lays.n246 Tryz.prog Tryz.lays246_ren:={
 mixed:=by kernel_rfl
 f129:=Tryz.func196.trans (congrArg some (by kernel_rfl))
 f246:=Tryz.func282.trans (congrArg some (by kernel_rfl))
 f283:=Tryz.func306.trans (congrArg some (by kernel_rfl))
 f284:=Tryz.func307.trans (congrArg some (by kernel_rfl))
 f285:=Tryz.func308.trans (congrArg some (by kernel_rfl))
 f286:=Tryz.func309.trans (congrArg some (by kernel_rfl))
 f317:=Tryz.func319.trans (congrArg some (by kernel_rfl))
 f318:=Tryz.func320.trans (congrArg some (by kernel_rfl))
 f319:=Tryz.func321.trans (congrArg some (by kernel_rfl))
 f320:=Tryz.func322.trans (congrArg some (by kernel_rfl))
 f337:=Tryz.func325.trans (congrArg some (by kernel_rfl))
 f338:=Tryz.func326.trans (congrArg some (by kernel_rfl))
 t0:=Tryz.underlying0
 a0:=Tryz.isAgg0
 z0:=Tryz.sizeOf0
 v0:=Tryz.zeroValue0
 t2:=Tryz.underlying2
 a2:=Tryz.isAgg2
 z2:=Tryz.sizeOf2
 v2:=Tryz.zeroValue2
 t3:=Tryz.underlying3
 a3:=Tryz.isAgg3
 z3:=Tryz.sizeOf3
 v3:=Tryz.zeroValue3
 t4:=Tryz.underlying4
 a4:=Tryz.isAgg4
 z4:=Tryz.sizeOf4
 v4:=Tryz.zeroValue4
 t5:=Tryz.underlying5
 a5:=Tryz.isAgg5
 z5:=Tryz.sizeOf5
 v5:=Tryz.zeroValue5
 t9:=Tryz.underlying9
 a9:=Tryz.isAgg9
 z9:=Tryz.sizeOf9
 v9:=Tryz.zeroValue9
 t20:=Tryz.underlying20
 a20:=Tryz.isAgg20
 z20:=Tryz.sizeOf20
 v20:=Tryz.zeroValue20
 t37:=Tryz.underlying118
 a37:=Tryz.isAgg118
 z37:=Tryz.sizeOf118
 v37:=Tryz.zeroValue118
 t46:=Tryz.underlying178
 a46:=Tryz.isAgg178
 z46:=Tryz.sizeOf178
 v46:=Tryz.zeroValue178
 t51:=Tryz.underlying234
 a51:=Tryz.isAgg234
 z51:=Tryz.sizeOf234
 v51:=Tryz.zeroValue234
 t53:=Tryz.underlying236
 a53:=Tryz.isAgg236
 z53:=Tryz.sizeOf236
 v53:=Tryz.zeroValue236
 t171:=Tryz.underlying322
 a171:=Tryz.isAgg322
 z171:=Tryz.sizeOf322
 v171:=Tryz.zeroValue322
 t173:=Tryz.underlying324
 a173:=Tryz.isAgg324
 z173:=Tryz.sizeOf324
 v173:=Tryz.zeroValue324
 t212:=Tryz.underlying339
 a212:=Tryz.isAgg339
 z212:=Tryz.sizeOf339
 v212:=Tryz.zeroValue339
 t213:=Tryz.underlying340
 a213:=Tryz.isAgg340
 z213:=Tryz.sizeOf340
 t232:=Tryz.underlying343
 a232:=Tryz.isAgg343
 z232:=Tryz.sizeOf343
 v232:=Tryz.zeroValue343
 t233:=Tryz.underlying344
 a233:=Tryz.isAgg344
 z233:=Tryz.sizeOf344
 v233:=Tryz.zeroValue344
 g17:=by kernel_rfl
 g18:=by kernel_rfl
 g19:=by kernel_rfl}
open Go.RowKit Go.Sort Go.Lib in
theorem Tryz.internal_strconv_FormatInt_10_small (i:Nat) (hi:i<100) (w:World):
  Calls Tryz.prog 282 #[.int .i64 i,.int .i64 10] w fun e w' =>e= .returned (.string ⟨(Lib.decDigits i).toArray⟩)∧w' =w:=Any.internal_strconv_FormatInt_10_small Tryz.lays246 i hi w
end Go.Proofs
namespace Go.Proofs.YtbgflifmanjpjaaGreatDoor
open Go.RowKit
abbrev mB (n:Int):List (Nat×List AV):= [(2000010,[.top,.int .i64 n,.top])]
theorem DX (n:Int) (i:0<n) (j:n≤10000):MTK Tryz.prog 163 [] (mB n) [.np 2000010 0] [] (mB (n-1)) (.int .i64 0):=by
 refine MTK.enter Tryz.func163 j8 j9 (by rfl) (by rfl) fun E p=> ?_
 show AK _ _ _ [.c dB] _ _;rw [dB];refine kW ?_;have g:decide (n=0)=false:=decide_eq_false (by omega);rw [g];refine kCf ?_;refine kW ?_;refine aR ⟨⟨_,rfl,rfl⟩,?_⟩;rw [aD (by omega) (by omega)];exact ⟨⟨_,rfl,rfl⟩,trivial⟩
def pgJ (v x:V) (k:ByteArray):Bool→Fr×St
 |true=>(ax [(2,.ptr 2 0),(4,.ptr 4 0),(9,.lst .any 1 (bJ [k])),(10,.int .i64 1),(11,.int .i64 0)],⟨ah [(2,(vC (v)),false),(4,gZ,false)],fun _=>0⟩)
 |false=>(ax [(2,.ptr 2 0),(4,.ptr 4 0),(9,.lst .any 1 (bJ [k])),(10,.int .i64 1),(11,.int .i64 1)],⟨ah [(2,(vC (x)),false),(4,gZ,false)],fun _=>0⟩)
theorem DY (v x:V) (k:ByteArray) (p:v.ord) (hsz:v.size≤1000000000000) (g:x.size≤1000000000000) (h:bh k v.m=some x):AC Tryz.prog 218 [(vA (v)),.lst .any 1 (bJ [k])] (.tup [(vA (x)),.bool true]):=by
 have i:=fS v k p hsz;have C:=lj x g;rw [h] at i;refine kE Tryz.func218 wV wW fun E I=> ?_
 refine kW ?_;refine aJ (pgJ v x k) (fun _=>True) (fun j=>match j with|true=>1|false=>0) true trivial (wO ⟨kI,kI,kI,kI,kI,trivial⟩ ⟨kJ,kJ,trivial⟩ rfl rfl) fun j _=> ?_
 cases j with
 |true=>
  refine kW ?_;refine kCt ?_;refine kW ?_;refine kQ [.c [.str k]] ?_;refine kW ?_;refine kP [.v (.tup [(vA (x)),.bool true])] ?_ ?_
  ·((repeat' apply aI)<;>first|exact kD|(intro r;refine ⟨?_,kG⟩;(repeat' apply aI)<;>first|exact kD|skip)|skip)
   all_goals exact i
  refine kW ?_;refine kCf ?_;refine kW ?_;exact AK.lp ⟨false,trivial,wO ⟨kI,kI,kI,kI,kU,trivial⟩ ⟨kJ,kJ,trivial⟩ rfl rfl,by decide⟩
 |false=>
  refine kW ?_;refine kCf ?_;refine AK.exit rfl ?_;refine kW ?_;refine kQ [.v (vA (x))] ?_;refine kW ?_;refine aR ⟨_,rfl,?_⟩;rfl
abbrev dotX (k:ByteArray):EX:= .mk 1 V.null ⟨#[]⟩ [k] []
theorem DZ (n:Int) (i:0<n) (j:n≤10000) (v x:V) (k:ByteArray) (p:v.ord) (hsz:v.size≤1000000000000) (g:x.size≤1000000000000) (h:bh k v.m=some x):
  MTK Tryz.prog 165 [] (mB n) [.np 2000010 0,.agg (dotX k).row,(vA (v)),.top] [] (mB (n-1)) (.tup [(vA (x)),.int .i64 0]):=by
 have r:=DX n i j;have C:=DY v x k p hsz g h;refine MTK.enter Tryz.func165 jf jg (by rfl) (by rfl) fun E I=> ?_
 show AK _ _ _ [.c c8] _ _;rw [c8];refine kW ?_;refine kQ [.k [2000010] [] (mB (n-1)) [] (.int .i64 0)] ?_;refine kW ?_;refine kCf ?_;refine kW ?_;refine kCf ?_;refine kW ?_;refine kCt ?_;refine kW ?_;refine kQ [.v (.tup [(vA (x)),.bool true])] ?_;refine kW ?_;exact aR ⟨⟨_,rfl,rfl⟩,⟨_,rfl,rfl⟩,trivial⟩
abbrev bB (g:AV) (t:ByteArray):List (Nat×List AV):= [(2800002,[g,.lst (.own 2800009 0) 1 (bO t)])]
abbrev adF:AV:= .raw (.pointer none)
abbrev adU:AV:= .np 2800002 0
def adB:Bool→AV
 |true=>adF
 |false=>adU
theorem LP (d:Bool) (t:ByteArray):MTK Tryz.prog 217 [2800009] (bB (adB d) t) [.np 2800002 0] [2800009] (bB (adB d) t) (.int .i64 t.size):=by
 have hl:=bU t;cases d
 all_goals
  refine MTK.enter Tryz.func217 ik il (by rfl) (by rfl) fun E g=> ?_
  show AK _ _ _ [.c cH] _ _;rw [cH];refine kW ?_;refine aR ⟨⟨_,rfl,?_⟩,⟨_,rfl,rfl⟩,trivial⟩;rw [hl];rfl
theorem Kt (d:Bool) (t s:ByteArray) (h:t.size+s.size≤65536):MTK Tryz.prog 164 [2800009] (bB (adB d) t) [.np 2800002 0,.str s] [2800009] (bB adU (t++s)) (.int .i64 0):=by
 have i:=LP d t;have j:=wQ t s (adB d) (by cases d;exact .inr rfl;exact .inl rfl) (by omega);cases d with
 |true=>
  refine MTK.enter Tryz.func164 no nq (by rfl) (by rfl) fun E g=> ?_
  show AK _ _ _ [.c gH] _ _;rw [gH];refine kW ?_;refine kQ [.k [2800002] [2800009] (bB adF t) [2800009] (.int .i64 t.size)] ?_;refine kW ?_;rw [aD (by omega) (by omega),show decide (((t.size:Int)+(s.size:Int))>65536)=false from decide_eq_false (by omega)];refine kCf ?_;refine kW ?_;refine kQ [.k [2800002] [2800009] (bB adU (t++s)) [2800009] (.tup [.int .i64 s.size,.raw .nilIface])] ?_;refine kW ?_;exact aR ⟨⟨_,rfl,rfl⟩,⟨_,rfl,rfl⟩,trivial⟩
 |false=>
  refine MTK.enter Tryz.func164 no nq (by rfl) (by rfl) fun E g=> ?_
  show AK _ _ _ [.c gH] _ _;rw [gH];refine kW ?_;refine kQ [.k [2800002] [2800009] (bB adU t) [2800009] (.int .i64 t.size)] ?_;refine kW ?_;rw [aD (by omega) (by omega),show decide (((t.size:Int)+(s.size:Int))>65536)=false from decide_eq_false (by omega)];refine kCf ?_;refine kW ?_;refine kQ [.k [2800002] [2800009] (bB adU (t++s)) [2800009] (.tup [.int .i64 s.size,.raw .nilIface])] ?_;refine kW ?_;exact aR ⟨⟨_,rfl,rfl⟩,⟨_,rfl,rfl⟩,trivial⟩
abbrev mbB (n:Int) (g:AV) (t:ByteArray):List (Nat×List AV):= [(2000010,[.top,.int .i64 n,.top]),(2800002,[g,.lst (.own 2800009 0) 1 (bO t)])]
abbrev textN (y:ByteArray):ND:= .mk 0 y EX.null ⟨#[]⟩ ⟨#[]⟩ [] []
abbrev outN (k:ByteArray):ND:= .mk 1 ⟨#[]⟩ (dotX k) ⟨#[]⟩ ⟨#[]⟩ [] []
theorem D0 (d:Bool) (t y:ByteArray) (n:Int) (v:V) (g:0<n) (i:n≤10000) (h:t.size+y.size≤65536):
  MTK Tryz.prog 113 [2800009] (mbB n (adB d) t) [.np 2000010 0,.np 2800002 0,.agg (textN y).row,(vA (v)),.top] [2800009] (mbB (n-1) adU (t++y)) (.int .i64 0):=by
 have j:=DX n g i;have p:=Kt d t y h;cases d
 all_goals
  refine MTK.enter Tryz.func113 eC eD (by rfl) (by rfl) fun E r=> ?_
  show AK _ _ _ [.c bG] _ _;rw [bG];refine kW ?_;refine kQ [.k [2000010] [] (mB (n-1)) [] (.int .i64 0)] ?_;refine kW ?_;refine kCf ?_;refine kW ?_;refine kCt ?_;refine kW ?_;refine kQ [.k [2800002] [2800009] (bB adU (t++y)) [2800009] (.int .i64 0)] ?_;refine kW ?_;exact aR ⟨⟨_,rfl,rfl⟩,⟨_,rfl,rfl⟩,⟨_,rfl,rfl⟩,trivial⟩
theorem Gl (d:Bool) (t:ByteArray) (n:Int) (v x:V) (k o:ByteArray) (r:1<n) (i:n≤10000) (j:v.ord) (hsz:v.size≤1000000000000) (g:x.size≤1000000000000) (p:bh k v.m=some x) (C:AC Tryz.prog 166 [(vA (x))] (.str o)) (h:t.size+o.size≤65536):
  MTK Tryz.prog 113 [2800009] (mbB n (adB d) t) [.np 2000010 0,.np 2800002 0,.agg (outN k).row,(vA (v)),.top] [2800009] (mbB (n-1-1) adU (t++o)) (.int .i64 0):=by
 have I:=DX n (by omega) i;have J:=DZ (n-1) (by omega) (by omega) v x k j hsz g p;have P:=Kt d t o h;cases d
 all_goals
  refine MTK.enter Tryz.func113 eC eD (by rfl) (by rfl) fun E R=> ?_
  show AK _ _ _ [.c bG] _ _;rw [bG];refine kW ?_;refine kQ [.k [2000010] [] (mB (n-1)) [] (.int .i64 0)] ?_;refine kW ?_;refine kCf ?_;refine kW ?_;refine kCf ?_;refine kW ?_;refine kCf ?_;refine kW ?_;refine kQ [.k [2000010] [] (mB (n-1-1)) [] (.tup [(vA (x)),.int .i64 0])] ?_;refine kW ?_;refine kCf ?_;refine kW ?_;refine kCt ?_;refine kW ?_;refine kQ [.v (.str o),.k [2800002] [2800009] (bB adU (t++o)) [2800009] (.int .i64 0)] ?_;refine kW ?_;exact aR ⟨⟨_,rfl,rfl⟩,⟨_,rfl,rfl⟩,⟨_,rfl,rfl⟩,trivial⟩
inductive SN where
 |tx (y:ByteArray)
 |ou (k:ByteArray) (x:V) (o:ByteArray)
def SN.nd:SN→ND
 | .tx y=>textN y
 | .ou k _ _=>outN k
def SN.cost:SN→Int
 | .tx _=>1
 | .ou _ _ _=>2
def SN.out:SN→ByteArray
 | .tx y=>y
 | .ou _ _ o=>o
def SN.Ok (v:V):SN→Prop
 | .tx _=>True
 | .ou k x o=>bh k v.m=some x∧x.size≤1000000000000∧AC Tryz.prog 166 [(vA (x))] (.str o)
def dH:List SN→Int
 | []=>0
 |y::l=>y.cost+dH l
def fx:List SN→ByteArray
 | []=>⟨#[]⟩
 |y::l=>y.out++fx l
theorem Cp (y:SN):1≤y.cost:=by cases y<;>simp [SN.cost]
theorem Cq: ∀l:List SN,0≤dH l
 | []=>Int.le_refl _
 |y::l=>by have:=Cp y;have:=Cq l;rw [dH];omega
theorem Lf (d:Bool) (t:ByteArray) (n:Int) (v:V) (y:SN) (hy:y.Ok v) (g:y.cost≤n) (i:n≤10000) (j:v.ord) (hsz:v.size≤1000000000000) (h:t.size+y.out.size≤65536):
  MTK Tryz.prog 113 [2800009] (mbB n (adB d) t) [.np 2000010 0,.np 2800002 0,.agg y.nd.row,(vA (v)),.top] [2800009] (mbB (n-y.cost) adU (t++y.out)) (.int .i64 0):=by
 cases y with
 |tx y=>exact D0 d t y n v (by have:(1:Int)≤n:=g;omega) i h
 |ou k x o=>
  obtain ⟨p,r,C⟩:=hy;have:=Gl d t n v x k o (by have:(2:Int)≤n:=g;omega) i j hsz r p C h;rw [show n-1-1=n-2 by omega] at this;exact this
abbrev rowsS (l:List SN):List (List AV):=l.map fun y=>y.nd.row
def L7 (l:List SN) (v:V) (x:Nat×Bool×Int×ByteArray):Fr×St:=(ax [(0,.np 2000010 0),(1,.np 2800002 0),(4,.top),(8,.ptr 8 0),(14,.lst .any 16 (rowsS l)),(15,.int .i64 (rowsS l).length),(16,.int .i64 x.1)],⟨ah [(8,(vC (v)),false),(2000010,[.top,.int .i64 x.2.2.1,.top],false),(2800002,[adB x.2.1,.lst (.own 2800009 0) 1 (bO x.2.2.2)],false)],fun _=>0⟩)
set_option maxHeartbeats 2000000 in
theorem J7 (t:ByteArray) (n:Int) (v:V) (l:List SN) (hl: ∀y∈l,y.Ok v) (h1:dH l≤n) (h2:n≤10000) (hn:l≠ []) (ho:v.ord) (hsz:v.size≤1000000000000) (h:t.size+(fx l).size≤65536) (hlen:l.length≤1000000):
  MTK Tryz.prog 60 [2800009] (mbB n adF t) [.np 2000010 0,.np 2800002 0,.lst .any 16 (rowsS l),(vA (v)),.top] [2800009] (mbB (n-dH l) adU (t++fx l)) (.int .i64 0):=by
 have I:(rowsS l).length=l.length:=List.length_map _;refine MTK.enter Tryz.func60 jh ji (by rfl) (by rfl) fun E hE=> ?_
 show AK _ _ _ [.c da] _ _;rw [da];refine kW ?_;refine aJ (L7 l v) (fun x=>x.1≤l.length∧x.2.2.1-dH (l.drop x.1)=n-dH l∧dH (l.drop x.1)≤x.2.2.1∧x.2.2.1≤n∧x.2.2.2++fx (l.drop x.1)=t++fx l∧x.2.2.2.size+(fx (l.drop x.1)).size≤65536∧(x.1=l.length→x.2.1=false)) (fun x=>l.length-x.1) (0,true,n,t) ⟨gB8 _,rfl,h1,Int.le_refl _,rfl,h,fun e=>absurd (List.eq_nil_of_length_eq_zero e.symm) hn⟩ (Weak.introZ (L:= [(0,.np 2000010 0),(1,.np 2800002 0),(4,.top),(8,.ptr 8 0),(14,.lst .any 16 (rowsS l)),(15,.int .i64 (rowsS l).length),(16,.int .i64 0)]) (BL:= [(8,(vC (v)),false),(2000010,[.top,.int .i64 n,.top],false),(2800002,[adF,.lst (.own 2800009 0) 1 (bO t)],false)]) ⟨kI,kI,kI,kI,kI,kI,kI,trivial⟩ ⟨kJ,kJ,kJ,trivial⟩ rfl ⟨rfl,rfl,trivial⟩) fun ⟨k,d',n',J⟩ hI=> ?_
 obtain ⟨hk,j,P,U,g,C,R⟩:=hI;dsimp only at hk j P U g C R;refine kW ?_;refine kC (fun hb=> ?_) fun hb=> ?_
 ·have r:k<l.length:=by simpa [I] using hb
  clear hb;obtain ⟨y,hy⟩: ∃y,l[k]? =some y:=⟨_,gA1 r⟩
  have T:l.drop k=y::l.drop (k+1):=by
   rw [gA1 r] at hy;cases hy;exact List.drop_eq_getElem_cons r
  have hyO:=hl y (gA2 hy);rw [T,dH] at j P;rw [T,fx] at g C;have hnn:=Cq (l.drop (k+1));rw [bv] at C;have hN:=Lf d' J n' v y hyO (by omega) (by omega) ho hsz (by omega);have hat:(rowsS l)[k]? =some y.nd.row:=by rw [gA8,hy];rfl
  have hcp:=Cp y;have hos:=bv J y.out;rw [←ByteArray.append_assoc] at g;generalize hn2:n' - y.cost=p at hN;generalize ht2' :J++y.out=t2 at hN g hos;have i:k+1≤l.length∧p-dH (l.drop (k+1))=n-dH l∧dH (l.drop (k+1))≤p∧p≤n∧t2++fx (l.drop (k+1))=t++fx l∧t2.size+(fx (l.drop (k+1))).size≤65536∧(k+1=l.length→false=false):=⟨r,by omega,by omega,by omega,g,by omega,fun _=>rfl⟩
  cases y with
  |tx y=>
   cases d' with
   |true=>
    refine kW ?_;refine kQ [.c (textN y).row] ?_;refine kW ?_;refine kQ [.k [2000010,2800002] [2800009] (mbB p adU t2) [2800009] (.int .i64 0)] ?_;refine kW ?_;refine kCf ?_;refine kW ?_;exact AK.lp ⟨(k+1,false,p,t2),i,Weak.introZ ⟨kI,kI,kI,kI,kI,kI,kU,trivial⟩ ⟨kJ,kJ,kJ,trivial⟩ rfl ⟨rfl,rfl,trivial⟩,by dsimp only;omega⟩
   |false=>
    refine kW ?_;refine kQ [.c (textN y).row] ?_;refine kW ?_;refine kQ [.k [2000010,2800002] [2800009] (mbB p adU t2) [2800009] (.int .i64 0)] ?_;refine kW ?_;refine kCf ?_;refine kW ?_;exact AK.lp ⟨(k+1,false,p,t2),i,Weak.introZ ⟨kI,kI,kI,kI,kI,kI,kU,trivial⟩ ⟨kJ,kJ,kJ,trivial⟩ rfl ⟨rfl,rfl,trivial⟩,by dsimp only;omega⟩
  |ou ky x o=>
   cases d' with
   |true=>
    refine kW ?_;refine kQ [.c (outN ky).row] ?_;refine kW ?_;refine kQ [.k [2000010,2800002] [2800009] (mbB p adU t2) [2800009] (.int .i64 0)] ?_;refine kW ?_;refine kCf ?_;refine kW ?_;exact AK.lp ⟨(k+1,false,p,t2),i,Weak.introZ ⟨kI,kI,kI,kI,kI,kI,kU,trivial⟩ ⟨kJ,kJ,kJ,trivial⟩ rfl ⟨rfl,rfl,trivial⟩,by dsimp only;omega⟩
   |false=>
    refine kW ?_;refine kQ [.c (outN ky).row] ?_;refine kW ?_;refine kQ [.k [2000010,2800002] [2800009] (mbB p adU t2) [2800009] (.int .i64 0)] ?_;refine kW ?_;refine kCf ?_;refine kW ?_;exact AK.lp ⟨(k+1,false,p,t2),i,Weak.introZ ⟨kI,kI,kI,kI,kI,kI,kU,trivial⟩ ⟨kJ,kJ,kJ,trivial⟩ rfl ⟨rfl,rfl,trivial⟩,by dsimp only;omega⟩
 ·have hge:k=l.length:=by
   have: ¬k<l.length:=by simpa [I] using hb
   omega
  clear hb;have hdf:=R hge;subst hdf;rw [gB6 (by omega)] at j g;rw [dH] at j;rw [fx] at g;refine AK.exit rfl ?_;rw [←g,←j,show J++(⟨#[]⟩:ByteArray)=J from ByteArray.append_empty,Int.sub_zero];refine kW ?_;exact aR ⟨⟨_,rfl,rfl⟩,⟨_,rfl,rfl⟩,⟨_,rfl,rfl⟩,trivial⟩
theorem Gm:MTK Tryz.prog 61 [] [] [.np 2000024 0] [] [] .top:=by
 have g:MOp Tryz.prog (.new 123) [] [] [(1900101,[mcA []])] (.np 1900101 0):=EE rfl;refine MTK.enter Tryz.func61 oA oB (by rfl) (by rfl) fun E i=> ?_
 show AK _ _ _ [.c fw] _ _;rw [fw];refine kW ?_;refine kQ [.s [] [(1900101,[mcA []])] (.np 1900101 0)] ?_;refine kW ?_;refine AK.weak (wN (row:=fun _=>0) (L:= [(2,.top)]) (BL:= []) ⟨⟨_,rfl,.ptop _ _⟩,trivial⟩ trivial rfl rfl trivial) ?_;refine kW ?_;exact aR ⟨⟨_,rfl,rfl⟩,trivial⟩
theorem LQ:((Tryz.prog.info? bT).bind fun i=>i.zero.map fun z=>z.cells)=some #[.pointer none,.slice none 0 0]:=kk
def D1 (i:Nat):Nat:=swY 2000010 19 (swY 2800002 1800002 (swY 2000024 24 i))
theorem vX (i j:Nat) (h:D1 i=D1 j):i=j:=bp _ _ (bp _ _ (bp _ _ h))
theorem zL (i:Nat):kd (D1 i)=kd i:=by unfold D1;rw [bM (by rfl),bM (by rfl),bM (by rfl)]
theorem LR (v:V) (l:List SN) (hl: ∀y∈l,y.Ok v) (j:dH l≤10000) (hn:l≠ []) (p:v.ord) (hsz:v.size≤1000000000000) (h:(fx l).size≤65536) (hlen:l.length≤1000000):
  MTK Tryz.prog 27 [] [] [.top,.lst .any 16 (rowsS l),(vA (v)),.int .i64 10000] [] [] (.tup [.str (fx l),.int .i64 (10000-dH l),.int .i64 0]):=by
 have U:MOp Tryz.prog (.bld bT) [] [] [(1800002,[adF,.lst .nil 1 []])] (.np 1800002 0):=by
  obtain ⟨r,C,I⟩:=Option.bind_eq_some_iff.1 LQ;obtain ⟨v0,J,P⟩:=Option.map_eq_some_iff.1 I;exact J6 rfl rfl C J P
 have R:=Gm.ren D1 vX zL;have g:=(J7 ⟨#[]⟩ 10000 v l hl j (by decide) hn p hsz (by rw [show (⟨#[]⟩:ByteArray).size=0 from rfl];omega) hlen).ren D1 vX zL;have i:=(IL (⟨#[]⟩++fx l) adU (.inr rfl) (by rw [bv,show (⟨#[]⟩:ByteArray).size=0 from rfl];omega)).ren D1 vX zL;have T:(⟨#[]⟩:ByteArray)++fx l=fx l:=ByteArray.empty_append;rw [T] at g i;refine MTK.enter Tryz.func27 wT wU (by rfl) (by rfl) fun E hE=> ?_
 show AK _ _ _ [.c oC] _ _;rw [oC];refine kW ?_;refine kQ [.s [] [(1800002,[adF,.lst .nil 1 []])] (.np 1800002 0)] ?_;refine kW ?_;refine AK.weak (Weak.introZ (L:= [(1,.lst .any 16 (rowsS l)),(6,.ptr 6 0),(11,.ptr 19 0),(12,.np 1800002 0)]) (BL:= [(6,(vC (v)),false),(19,[.top,.int .i64 10000,.top],false),(1800002,[adF,.lst (.own 2800009 0) 1 []],false)]) ⟨kI,kI,kI,kI,trivial⟩ ⟨kJ,⟨_,rfl,.refl _,.refl _,.gone _ rfl,trivial⟩,⟨_,rfl,.refl _,.own _ _ _ _,trivial⟩,trivial⟩ rfl ⟨rfl,trivial⟩) ?_;refine AK.regaE fw0 [.k [] [] [] [] .top,.k [19,1800002] [2800009] [(19,[.top,.int .i64 (10000-dH l),.top]),(1800002,[.np 1800002 0,.lst (.own 2800009 0) 1 (bO (fx l))])] [2800009] (.int .i64 0)] (ax [(11,.ptr 19 0),(12,.np 1800002 0),(13,.int .i64 0)]) ⟨ah [(19,[.top,.int .i64 (10000-dH l),.top],false),(1800002,[.np 1800002 0,.lst (.own 2800009 0) 1 (bO (fx l))],false)],fun _=>0⟩ ?_ ?_
 ·(repeat' (first|exact trivial|apply aI))
  all_goals first|exact R|exact g|rfl|exact Weak.introZ (L:= [(11,.ptr 19 0),(12,.np 1800002 0),(13,.int .i64 0)]) ⟨kI,kI,kI,trivial⟩ ⟨kJ,kJ,trivial⟩ rfl ⟨rfl,trivial⟩|skip
 refine kW ?_;refine kCf ?_;refine kW ?_;refine AK.regaE fw0 [.k [1800002] [2800009] [(1800002,[.top,.top])] [] (.str (fx l))] (ax [(8,.str (fx l)),(9,.int .i64 (10000-dH l)),(10,.int .i64 0)]) ⟨ah [],fun _=>0⟩ ?_ ?_
 ·(repeat' (first|exact trivial|apply aI))
  all_goals first|exact i|rfl|exact Weak.introZ (L:= [(8,.str (fx l)),(9,.int .i64 (10000-dH l)),(10,.int .i64 0)]) (BL:= []) ⟨kI,kI,kI,trivial⟩ trivial rfl trivial|skip
 exact aR ⟨⟨_,rfl,rfl⟩,trivial⟩
abbrev v1:V:=⟨2,false,1,⟨#[]⟩,[],[]⟩
abbrev tx1:ByteArray:=⟨#[49]⟩
theorem J8:AC Tryz.prog 282 [.int .i64 1,.int .i64 10] (.str tx1):=by
 refine ⟨by kernel_rfl,fun σ w vs g hr hg=> ?_⟩
 obtain ⟨v1,v2,rfl⟩: ∃a b,vs= [a,b]:=by
  have hl:vs.length=2:=hr.1;rcases vs with _|⟨a,_|⟨b,_|⟨c,l⟩⟩⟩<;>simp at hl
  exact ⟨a,b,rfl⟩
 have i:Rel1 σ v1 (.int .i64 1):=hr.2 0 v1 _ rfl rfl;have j:Rel1 σ v2 (.int .i64 10):=hr.2 1 v2 _ rfl rfl;cases i;cases j;refine (Tryz.internal_strconv_FormatInt_10_small 1 (by decide) w).mono ?_;rintro e w' ⟨rfl,rfl⟩;rw [show Lib.decDigits 1= [49] from by decide+kernel];exact ⟨σ,_,rfl,Ext.refl _ _,g,Below.refl _ _,.str _⟩
theorem Lg:AC Tryz.prog 250 [.int .i64 1,.int .i64 10] (.str tx1):=by
 have h:=J8;refine kE Tryz.func250 ka kb fun E g=> ?_
 refine kW ?_;refine kQ [.v (.str tx1)] ?_;refine kW ?_;refine aR ⟨_,rfl,?_⟩;rfl
theorem IM:AC Tryz.prog 222 [(vA (v1))] (.str tx1):=by
 have h:=Lg;refine kE Tryz.func222 oZ o4 fun E g=> ?_
 refine kW ?_;refine kCf ?_;refine kW ?_;refine kCt ?_;refine kW ?_;refine kQ [.v (.str tx1)] ?_;refine kW ?_;refine aR ⟨_,rfl,?_⟩;rfl
theorem J9:AC Tryz.prog 166 [(vA (v1))] (.str tx1):=by
 have h:=IM;refine kE Tryz.func166 rm rn fun E g=> ?_
 refine kW ?_;refine kCf ?_;refine kW ?_;refine kCf ?_;refine kW ?_;refine kQ [.v (.str tx1)] ?_;refine kW ?_;refine aR ⟨_,rfl,?_⟩;rfl
theorem zM (neg:Bool) (g o:Nat):tE Tryz.prog neg 30 (.pointer (some ⟨g,o,none⟩)) (.pointer none) false:=by
 intro w x y i
 have hg:(eqGuard (jj neg) 30 x y (.pointer (some ⟨g,o,none⟩)) (.pointer none)).run Tryz.prog w= .ok () w:=by
  cases x<;>cases y<;>first|(cases i;done)|(cases neg<;>simp [go_sem,eqGuard,jj])
 cases neg
 ·exact ⟨hg,by simp [go_sem,jj]⟩
 ·exact ⟨hg,by simp [go_sem,jj]⟩
abbrev chR (nm ver:ByteArray) (g:V) (p:Fl) (l:List SN):List AV:= [.str nm,.str ver,.int .i64 g.kind,.bool g.b,.int .i64 g.n,.str g.s,.lst .any 6 (aM g.l),.lst .any 7 (am g.m),.lst .any 2 [[.str p.1,.str p.2]],.lst .any 1 [[.lst .any 16 (rowsS l)]],.top]
def crJ (nm ver:ByteArray) (g v:V) (p:Fl) (l:List SN):Bool→Fr×St
 |true=>(ax [(0,.np 2000000 0),(3,.ptr 3 0),(7,.lst .nil 2 []),(18,.lst .any 2 [[.str p.1,.str p.2]]),(19,.int .i64 1),(20,.int .i64 0)],⟨ah [(3,(vC (v)),false),(2000000,chR nm ver g p l,false)],fun _=>0⟩)
 |false=>(ax [(0,.np 2000000 0),(3,.ptr 3 0),(7,.lst .any 2 [[.str p.1,.str (fx l)]]),(18,.lst .any 2 [[.str p.1,.str p.2]]),(19,.int .i64 1),(20,.int .i64 1)],⟨ah [(3,(vC (v)),false),(2000000,chR nm ver g p l,false)],fun _=>0⟩)
theorem Cr (nm ver:ByteArray) (g v:V) (p:Fl) (l:List SN) (C:AC Tryz.prog 19 [.str p.1] (.bool false)) (hl: ∀y∈l,y.Ok v) (i:dH l≤10000) (hn:l≠ []) (r:v.ord) (hsz:v.size≤1000000000000) (h:(fx l).size≤65536) (hlen:l.length≤1000000):
  MTK Tryz.prog 28 [] [(2000000,chR nm ver g p l)] [.np 2000000 0,(vA (v))] [] [(2000000,chR nm ver g p l)] (.tup [.lst .any 2 [[.str p.1,.str (fx l)]],.str ⟨#[]⟩,.int .i64 0]):=by
 have I:=LR v l hl i hn r hsz h hlen;refine MTK.enter Tryz.func28 lB lC (by rfl) (by rfl) fun E J=> ?_
 show AK _ _ _ [.c el] _ _;rw [el];refine kW ?_;refine kP [] ?_ ?_
 ·exact ⟨zM false,trivial⟩
 refine kCf ?_;refine kW ?_;refine aJ (crJ nm ver g v p l) (fun _=>True) (fun j=>match j with|true=>1|false=>0) true trivial (Weak.introZ ⟨kI,kI,kI,kI,kI,kI,trivial⟩ ⟨kJ,kJ,trivial⟩ rfl ⟨rfl,trivial⟩) fun j _=> ?_
 cases j with
 |true=>
  refine kW ?_;refine kCt ?_;refine kW ?_;refine kQ [.c [.str p.1,.str p.2]] ?_;refine kW ?_;refine kQ [.v (.bool false)] ?_;refine kCf ?_;refine kW ?_;refine kQ [.c [.lst .any 16 (rowsS l)],.k [] [] [] [] (.tup [.str (fx l),.int .i64 (10000-dH l),.int .i64 0])] ?_;refine kW ?_;refine kCf ?_;refine kW ?_;refine kQ [] ?_;refine kW ?_;exact AK.lp ⟨false,trivial,Weak.introZ ⟨kI,kI,⟨_,rfl,.one (.any _ _ _)⟩,kI,kI,kU,trivial⟩ ⟨kJ,kJ,trivial⟩ rfl ⟨rfl,trivial⟩,by decide⟩
 |false=>
  refine kW ?_;refine kCf ?_;refine AK.exit rfl ?_;refine kW ?_;exact aR ⟨⟨_,rfl,rfl⟩,⟨_,rfl,rfl⟩,trivial⟩
abbrev awA:ByteArray:=⟨#[67,104,97,114,116,46,121,97,109,108]⟩
abbrev awB:ByteArray:=⟨#[110,97,109,101,58,32,119,101,98,10,118,101,114,115,105,111,110,58,32,118,49,10]⟩
abbrev awT:ByteArray:=⟨#[116,101,109,112,108,97,116,101,115,47,97,46,121,97,109,108]⟩
abbrev awU:ByteArray:=⟨#[123,123,32,46,120,32,125,125]⟩
abbrev awX:ByteArray:=⟨#[120]⟩
abbrev awF:List Fl:= [(awA,awB),(awT,awU)]
abbrev awWeb:ByteArray:=⟨#[119,101,98]⟩
abbrev awV1:ByteArray:=⟨#[118,49]⟩
theorem Lh:gK awF=(⟨awWeb,awV1,b8 [],[((awT,awU),[outN awX])],[]⟩,⟨#[]⟩,0):=kk
theorem MTK.full1 {P:Program} {f:FuncId} {ks ks' :List Nat} {S S' :List (Nat×List AV)} {e:Nat} {l:List (List AV)} {r:AV} (h:MTK P f ks S [.lst .any e l] ks' S' r):MTK P f ks S [.lst .full e l] ks' S' r:=
 ⟨h.cb,fun σ w B R vs p C I J T U h7 g=>h.run σ w B R vs p C I J T U h7 ⟨g.1,fun j v a hv i=>by
  rcases j with _|j
  ·cases i
   exact (show Rel1 σ v (.lst .full e l) from g.2 0 v _ hv rfl).slice_any
  ·cases i⟩⟩
def Cs (i:Nat):Nat:=swY 23 1000001 i
theorem yg (i j:Nat) (h:Cs i=Cs j):i=j:=bp _ _ h
theorem Ct (i:Nat):kd (Cs i)=kd i:=bM (by rfl) i
def E3 (i:Nat):Nat:=swY 2000000 1000001 i
theorem Gn (i j:Nat) (h:E3 i=E3 j):i=j:=bp _ _ h
theorem IN (i:Nat):kd (E3 i)=kd i:=bM (by rfl) i
abbrev awD:V:=b8 [(awX,v1)]
abbrev awS:List SN:= [.ou awX v1 tx1]
theorem Gp:AC Tryz.prog 15 [] (.bool true):=by
 have j:=Ch awF (by decide) fun _ p g=>by
  simp only [List.mem_cons,List.not_mem_nil,or_false] at g;rcases g with rfl|rfl<;>decide
 rw [Lh] at j;have j:=(j.ren Cs yg Ct).full1;have r:AC Tryz.prog 19 [.str awT] (.bool false):=yb awT (by decide);have C:awD.ord:=eh (List.pairwise_singleton _ _) fun p g=>by rw [gB1 g];exact (V.ord_eq _).2 ⟨fun h=>absurd h (by decide),fun _=>rfl,.nil,fun p g=>by cases g⟩
 have I:=(Cr awWeb awV1 (b8 []) awD (awT,awU) awS r (fun y hy=>by rw [gB1 hy];exact ⟨by rfl,by decide+kernel,J9⟩) (by decide) (by decide) C (by decide+kernel) (by decide+kernel) (by decide)).ren E3 Gn IN;refine kE Tryz.func15 qL qM fun E J=> ?_
 refine kW ?_;refine kP [.k [] [] [(1000001,chU awWeb awV1 (b8 []) [((awT,awU),[outN awX])] (.np 1900101 0)),(1900101,[mcA (aY [])])] qKs (.tup [.np 1000001 0,.str ⟨#[]⟩,.int .i64 0])] ?_ ?_
 ·((repeat' apply aI)<;>first|exact kD|(intro i;refine ⟨?_,kG⟩;(repeat' apply aI)<;>first|exact kD|skip)|skip)
  all_goals exact j
 refine kW ?_;refine kP [] ?_ ?_
 ·((repeat' apply aI)<;>first|exact kD|(intro i;refine ⟨?_,kG⟩;(repeat' apply aI)<;>first|exact kD|skip)|skip)
  all_goals exact zM false
 refine kCf ?_;refine kW ?_;refine AK.weak (Weak.introZ (L:= [(1,.np 1000001 0)]) (BL:= [(1000001,chR awWeb awV1 (b8 []) (awT,awU) awS,false)]) ⟨kI,trivial⟩ ⟨⟨_,rfl,.refl _,.refl _,.refl _,.refl _,.refl _,.refl _,.refl _,.refl _,.any _ _ _,.any _ _ _,.top _ rfl,trivial⟩,trivial⟩ rfl ⟨rfl,trivial⟩) ?_;refine kW ?_;refine kP [.k [1000001] [] [(1000001,chR awWeb awV1 (b8 []) (awT,awU) awS)] [] (.tup [.lst .any 2 [[.str awT,.str tx1]],.str ⟨#[]⟩,.int .i64 0])] ?_ ?_
 ·((repeat' apply aI)<;>first|exact kD|(intro i;refine ⟨?_,kG⟩;(repeat' apply aI)<;>first|exact kD|skip)|skip)
  all_goals exact I
 refine kW ?_;refine kQ [.c [.str awT,.str tx1]] ?_;refine kW ?_;refine aR ⟨_,rfl,?_⟩;rfl
def im (l:List Fl):Nat→Int
 |0=>0
 |k+1=>IntKind.i64.wrap (im l k+IntKind.i64.wrap (IntKind.i64.wrap (((l.getD k (⟨#[]⟩,⟨#[]⟩)).1.size:Int)+((l.getD k (⟨#[]⟩,⟨#[]⟩)).2.size:Int))+1))
theorem IP (l:List Fl) (hl:l.length≤4398046511104):AC Tryz.prog 7 [.lst .any 2 (aq l)] (.bool (decide (im l l.length≤3000))):=by
 refine kE Tryz.func7 qN qO fun E r=> ?_
 refine kW ?_;refine aJ (fun k:Nat=>(ax [(3,.int .i64 (im l k)),(6,.lst .any 2 (aq l)),(7,.int .i64 (aq l).length),(8,.int .i64 k)],⟨ah [],fun _=>0⟩)) (fun k=>k≤l.length) (fun k=>l.length-k) 0 (gB8 _) (wO ⟨kI,kI,kI,kI,trivial⟩ trivial rfl rfl) fun k C=> ?_
 refine kW ?_;refine kC (fun hb=> ?_) fun hb=> ?_
 ·have g:k<l.length:=by simpa [ak] using hb
  obtain ⟨p,hg⟩: ∃x,l[k]? =some x:=⟨_,gA1 g⟩
  have i:l.getD k (⟨#[]⟩,⟨#[]⟩)=p:=by rw [List.getD_eq_getElem?_getD,hg];rfl
  refine kW ?_;refine kP [.c [.str p.1,.str p.2]] ?_ ?_
  ·((repeat' apply aI)<;>first|exact kD|(intro j;refine ⟨?_,kG⟩;(repeat' apply aI)<;>first|exact kD|skip)|skip)
   ·exact bY hg
  refine kW ?_;exact AK.lp ⟨k+1,by omega,wO ⟨⟨_,rfl,.of_eq (congrArg (AV.int .i64) (by rw [im,i]))⟩,kI,kI,kU,trivial⟩ trivial rfl rfl,by omega⟩
 ·have g:k=l.length:=by have:l.length≤k:=by simpa [ak] using hb
                        omega
  subst g;refine AK.exit rfl ?_;refine kW ?_;refine aR ⟨_,rfl,?_⟩;rfl
def oD:List Fl→Nat
 | []=>0
 |p::l=>p.1.size+p.2.size+1+oD l
theorem Cu: ∀a b:List Fl,oD (a++b)=oD a+oD b
 | [],b=>by simp [oD]
 |p::a,b=>by rw [List.cons_append,oD,oD,Cu a b];omega
theorem Cv {p:Fl}: ∀{l:List Fl},p∈l→p.1.size+p.2.size≤oD l
 |q::l,h=>by
  rw [oD];rcases gB2 h with rfl|h
  ·omega
  ·have:=Cv h;omega
theorem Ka {l:List Fl} (h: ∀p∈l,p.1.size≤140737488355328∧p.2.size≤140737488355328):oD l≤l.length*281474976710657:=by
 induction l with
 |nil=>exact gB8 _
 |cons p l ih=>
  have i:=ih fun q g=>h q (by simp [g])
  have j:=h p (by simp);rw [oD,gA3];omega
theorem yh {l:List Fl} (g:l.length≤32) (h: ∀p∈l,p.1.size≤140737488355328∧p.2.size≤140737488355328): ∀k,k≤l.length→im l k=(oD (l.take k):Nat)
 |0,_=>rfl
 |k+1,C=>by
  obtain ⟨p,hg⟩: ∃x,l[k]? =some x:=⟨_,gA1 (by omega)⟩
  have i:l.getD k (⟨#[]⟩,⟨#[]⟩)=p:=by rw [List.getD_eq_getElem?_getD,hg];rfl
  have I:=h p (gA2 hg);have e:l.take (k+1)=l.take k++ [p]:=by rw [List.take_add_one,hg];rfl
  have J:oD (l.take k)≤32*281474976710657:=by
   have:=Ka (l:=l.take k) fun q j=>h q (List.mem_of_mem_take j)
   have r:(l.take k).length≤32:=by rw [gA7];omega
   exact gB7 this (Nat.mul_le_mul_right _ r)
  rw [im,yh g h k (by omega),i,e,Cu,oD,oD,aD (n:=(p.1.size:Int)+(p.2.size:Int)) (by omega) (by omega),aD (n:=(p.1.size:Int)+(p.2.size:Int)+1) (by omega) (by omega),aD (by omega) (by omega)];omega
theorem Cw {l:List Fl} (g:l.length≤32) (h: ∀p∈l,p.1.size≤140737488355328∧p.2.size≤140737488355328) (hl:im l l.length≤3000): ∀p∈l,p.1.size≤1000000∧p.2.size≤1000000:=fun p i=>by
 rw [yh g h _ (gA4 _),List.take_length] at hl;have:=Cv i;omega
end Go.Proofs.YtbgflifmanjpjaaGreatDoor
