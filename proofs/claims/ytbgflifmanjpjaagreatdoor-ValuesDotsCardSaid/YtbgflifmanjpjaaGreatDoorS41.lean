/- Part 41. -/
import Derived.Test.YtbgflifmanjpjaaGreatDoorS40
set_option linter.unusedSimpArgs false
set_option linter.unusedVariables false
namespace Go.Proofs.YtbgflifmanjpjaaGreatDoor
section
set_option maxRecDepth 100000
def cr:ACode:=
 .seq (gQ [⟨gO,.alloc 2 [.int .i64 0,.int .i64 0,.bool false,.int .i64 0,.str ⟨#[]⟩,.lst .nil 6 [],.lst .nil 7 [],.str ⟨#[]⟩,.lst .nil 1 [],.lst .nil 10 []]⟩,⟨gO,.mov 3 (.k (.bool false))⟩]) (.seq (gQ [gM 12 0,⟨gO,.calls (some 13) (.k (.fn 213 [])) [.s 12]⟩]) (.seq (.seq (gQ [gM 14 0,gF 15 0 14,gF 16 0 15,gL 17 16,⟨gO,gB 18 .eql (.s 17) (gS ⟨#[]⟩)⟩]) (.cond (.s 18) (.seq (gQ [⟨gO,.build 19 [.int .i64 0,.int .i64 0,.bool false,.int .i64 0,.str ⟨#[]⟩,.lst .nil 6 [],.lst .nil 7 [],.str ⟨#[]⟩,.lst .nil 1 [],.lst .nil 10 []] []⟩,gT 10 2 19,⟨gO,.mov 3 (.k (.bool false))⟩]) .ret) .skip)) (.seq (.seq (gQ [gM 20 0,gF 21 0 20,gF 22 0 21,gL 23 22,⟨gO,.bidx 24 (.s 23) (gI 0)⟩,gM 4 24]) (.block 0 (.seq (gQ [gM 26 4,⟨gO,gB 27 .eql (.s 26) (.k (.int .u8 34))⟩,gM 25 27]) (.cond (.s 25) (.seq (gQ [gM 29 0,gF 30 0 29,gF 31 0 30,gL 32 31,gC 33 124 [.s 32],gM 28 33,gX 34 0 28,gX 35 1 28,gX 36 2 28,gM 5 34,gM 6 35,gM 7 36]) (.seq (.seq (gQ [gM 37 7,gU 38 .neq 37 0]) (.cond (.s 38) (.seq (gQ [gM 39 0,gM 40 7,⟨gO,.calls (some 41) (.k (.fn 216 [])) [.s 39,.s 40]⟩,gT 10 2 41,⟨gO,.mov 3 (.k (.bool true))⟩]) .ret) .skip)) (.seq (gQ [gM 42 0,gM 43 6,gF 44 0 42,gF 45 0 44,gT 1 45 43]) (.seq (gQ [gM 46 5,gC 47 45 [.s 46],⟨gO,.build 48 [.int .i64 0,.int .i64 0,.bool false,.int .i64 0,.str ⟨#[]⟩,.lst .nil 6 [],.lst .nil 7 [],.str ⟨#[]⟩,.lst .nil 1 [],.lst .nil 10 []] [(1,6,.s 47)]⟩,gT 10 2 48,⟨gO,.mov 3 (.k (.bool true))⟩]) .ret)))) (.seq (gQ [gM 50 4,⟨gO,gB 51 .eql (.s 50) (.k (.int .u8 45))⟩,gM 52 51,gN 52 false 53 4,⟨some (52,false),.bin 54 .geq false (.s 53) (.k (.int .u8 48))⟩,gN 52 false 55 54,gN 55 true 56 4,⟨some (55,true),.bin 57 .leq false (.s 56) (.k (.int .u8 57))⟩,⟨some (52,false),.pick 58 (.s 55) (.s 57) (.k (.bool false))⟩,⟨gO,.pick 59 (.s 52) (.k (.bool true)) (.s 58)⟩,gM 49 59]) (.cond (.s 49) (.seq (gQ [gM 60 0,⟨gO,.calls (some 61) (.k (.fn 289 [])) [.s 60]⟩,gT 10 2 61,⟨gO,.mov 3 (.k (.bool true))⟩]) .ret) (.seq (gQ [gM 63 4,⟨gO,gB 64 .eql (.s 63) (.k (.int .u8 46))⟩,gM 62 64]) (.cond (.s 62) (.seq (gQ [gM 65 0,⟨gO,.calls (some 66) (.k (.fn 290 [])) [.s 65]⟩,⟨gO,.build 67 [.int .i64 0,.int .i64 0,.bool false,.int .i64 0,.str ⟨#[]⟩,.lst .nil 6 [],.lst .nil 7 [],.str ⟨#[]⟩,.lst .nil 1 [],.lst .nil 10 []] [(0,1,gI 1),(8,1,.s 66)]⟩,⟨gO,.alloc 8 [.int .i64 0,.int .i64 0,.bool false,.int .i64 0,.str ⟨#[]⟩,.lst .nil 6 [],.lst .nil 7 [],.str ⟨#[]⟩,.lst .nil 1 [],.lst .nil 10 []]⟩,gT 10 8 67]) (.seq (.seq (gQ [gF 68 8 8,gL 69 68,gH 70 false 69,gU 71 .eql 70 0]) (.cond (.s 71) (.reg [gM 72 0,gM 73 0,gF 74 0 73,gF 75 0 74,gL 76 75,⟨gO,.sub 77 true 0 (.s 76) (some (gI 1)) none⟩,gF 78 0 72,gF 79 0 78,gT 1 79 77]) .skip)) (.seq (gQ [gA 80 10 8,gT 10 2 80,⟨gO,.mov 3 (.k (.bool true))⟩]) .ret))) (.seq (gQ [gM 82 4,⟨gO,gB 83 .eql (.s 82) (.k (.int .u8 36))⟩,gM 81 83]) (.cond (.s 81) (.seq (gQ [gM 84 0,gM 85 0,gF 86 0 85,gF 87 0 86,gL 88 87,⟨gO,.sub 89 true 0 (.s 88) (some (gI 1)) none⟩,gF 90 0 84,gF 91 0 90,gT 1 91 89]) (.seq (gQ [gM 92 0,⟨gO,.calls (some 93) (.k (.fn 158 [])) [.s 92]⟩,⟨gO,.build 94 [.int .i64 0,.int .i64 0,.bool false,.int .i64 0,.str ⟨#[]⟩,.lst .nil 6 [],.lst .nil 7 [],.str ⟨#[]⟩,.lst .nil 1 [],.lst .nil 10 []] [(0,1,gI 2),(7,1,.s 93)]⟩,⟨gO,.alloc 9 [.int .i64 0,.int .i64 0,.bool false,.int .i64 0,.str ⟨#[]⟩,.lst .nil 6 [],.lst .nil 7 [],.str ⟨#[]⟩,.lst .nil 1 [],.lst .nil 10 []]⟩,gT 10 9 94]) (.seq (.seq (gQ [gF 95 7 9,gL 96 95,⟨gO,gB 97 .eql (.s 96) (gS ⟨#[]⟩)⟩]) (.cond (.s 97) (.seq (gQ [gM 98 0,⟨gO,.calls (some 99) (.k (.fn 216 [])) [.s 98,gI 20]⟩,gT 10 2 99,⟨gO,.mov 3 (.k (.bool true))⟩]) .ret) .skip)) (.seq (gQ [gM 100 0,⟨gO,.calls (some 101) (.k (.fn 290 [])) [.s 100]⟩,gF 102 8 9,gT 1 102 101]) (.seq (gQ [gA 103 10 9,gT 10 2 103,⟨gO,.mov 3 (.k (.bool true))⟩]) .ret))))) (.seq (gQ [gM 105 4,⟨gO,gB 106 .eql (.s 105) (.k (.int .u8 40))⟩,gM 104 106]) (.cond (.s 104) (.seq (.seq (gQ [gM 107 0,gF 108 0 107,gF 109 1 108,gL 110 109,gU 111 .add 110 1,gF 112 0 107,gF 113 1 112,gT 1 113 111]) (.seq (gQ [gM 114 0,gF 115 0 114,gF 116 1 115,gL 117 116,gU 118 .gtr 117 16]) (.cond (.s 118) (.seq (gQ [gM 119 0,⟨gO,.calls (some 120) (.k (.fn 216 [])) [.s 119,gI 5]⟩,gT 10 2 120,⟨gO,.mov 3 (.k (.bool true))⟩]) .ret) .skip))) (.seq (gQ [gM 121 0,gM 122 0,gF 123 0 122,gF 124 0 123,gL 125 124,⟨gO,.sub 126 true 0 (.s 125) (some (gI 1)) none⟩,gF 127 0 121,gF 128 0 127,gT 1 128 126]) (.seq (.regs [gM 129 0,⟨gO,.calls (some 130) (.k (.fn 215 [])) [.s 129]⟩,⟨gO,.alloc 10 [.int .i64 0,.int .i64 0,.bool false,.int .i64 0,.str ⟨#[]⟩,.lst .nil 6 [],.lst .nil 7 [],.str ⟨#[]⟩,.lst .nil 1 [],.lst .nil 10 []]⟩,gT 10 10 130]) (.seq (.seq (gQ [gM 131 0,⟨gO,.calls (some 132) (.k (.fn 213 [])) [.s 131]⟩]) (.seq (gQ [gM 133 0,gF 134 0 133,gF 135 0 134,gL 136 135,⟨gO,.call (some 137) (.k (.fn 42 [])) [.s 136,gS ⟨#[41]⟩]⟩,⟨gO,.un 138 .not (.s 137)⟩]) (.cond (.s 138) (.seq (gQ [gM 139 0,⟨gO,.calls (some 140) (.k (.fn 216 [])) [.s 139,gI 20]⟩,gT 10 2 140,⟨gO,.mov 3 (.k (.bool true))⟩]) .ret) .skip))) (.seq (gQ [gM 141 0,gF 142 0 141,gF 143 1 142,gL 144 143,gU 145 .sub 144 1,gF 146 0 141,gF 147 1 146,gT 1 147 145]) (.seq (gQ [gM 148 0,gM 149 0,gF 150 0 149,gF 151 0 150,gL 152 151,⟨gO,.sub 153 true 0 (.s 152) (some (gI 1)) none⟩,gF 154 0 148,gF 155 0 154,gT 1 155 153]) (.seq (gQ [gA 156 10 10,gT 10 2 156,⟨gO,.mov 3 (.k (.bool true))⟩]) .ret))))))) (.seq (gQ [gM 158 4,gC 159 210 [.s 158],gM 157 159]) (.cond (.s 157) (.seq (gQ [gM 160 0,gF 161 0 160,gF 162 0 161,gL 163 162,gM 11 163]) (.seq (gQ [gM 164 0,⟨gO,.calls (some 165) (.k (.fn 158 [])) [.s 164]⟩]) (.block 1 (.seq (.seq (gQ [⟨gO,gB 171 .eql (.s 165) (gS ⟨#[116,114,117,101]⟩)⟩,gM 170 171]) (.cond (.s 170) .skip (.reg [⟨gO,gB 172 .eql (.s 165) (gS ⟨#[102,97,108,115,101]⟩)⟩,gM 170 172]))) (.cond (.s 170) (.seq (gQ [gM 173 11,⟨gO,.bidx 174 (.s 173) (gI 0)⟩,⟨gO,gB 175 .eql (.s 174) (.k (.int .u8 116))⟩,gC 176 180 [.s 175],⟨gO,.build 177 [.int .i64 0,.int .i64 0,.bool false,.int .i64 0,.str ⟨#[]⟩,.lst .nil 6 [],.lst .nil 7 [],.str ⟨#[]⟩,.lst .nil 1 [],.lst .nil 10 []] [(1,6,.s 176)]⟩,gT 10 2 177,⟨gO,.mov 3 (.k (.bool true))⟩]) .ret) (.seq (gQ [⟨gO,gB 179 .eql (.s 165) (gS ⟨#[110,105,108]⟩)⟩,gM 178 179]) (.cond (.s 178) (.seq (gQ [⟨gO,.build 180 [.int .i64 0,.int .i64 0,.bool false,.int .i64 0,.str ⟨#[]⟩,.lst .nil 6 [],.lst .nil 7 [],.str ⟨#[]⟩,.lst .nil 1 [],.lst .nil 10 []] []⟩,gT 10 2 180,⟨gO,.mov 3 (.k (.bool true))⟩]) .ret) (.reg [gM 166 0,gM 167 11,gF 168 0 166,gF 169 0 168,gT 1 169 167])))))))) .skip)))))))))))))) (.seq (gQ [⟨gO,.build 181 [.int .i64 0,.int .i64 0,.bool false,.int .i64 0,.str ⟨#[]⟩,.lst .nil 6 [],.lst .nil 7 [],.str ⟨#[]⟩,.lst .nil 1 [],.lst .nil 10 []] []⟩,gT 10 2 181,⟨gO,.mov 3 (.k (.bool false))⟩]) .ret))))
def ju:AFn:=⟨1,182,cr,[.cell 2 10 true,.tmp 3]⟩
theorem g8:ax Tryz.prog [2000216,2000213,2000158,2000290,2000289,2000264,2000245,2000215,2000059,2000112,2000058,2000159,2000110,2000105,5000030] Tryz.f264=some ju:=kk
theorem g9:aa Tryz.prog 264=true:=kk
end
section
open Go.RowKit
abbrev FX:=Option (Bool×Nat×Nat)
abbrev fX (l:List EX) (m:Nat):List AV:=rowB (aO l) m
theorem BY {c:AV} {x:EX} (h:c∈x.row):c.cln=true∧c.unown=c:=by
 obtain ⟨k,v,n,s,a⟩:=x;simp only [EX.row,exH,List.cons_append,List.nil_append,List.mem_cons,List.not_mem_nil,or_false] at h;rcases h with rfl|rfl|rfl|rfl|rfl|rfl|rfl|rfl|rfl|rfl<;>exact ⟨rfl,rfl⟩
theorem Id (x:EX):x.row.length=10:=by
 obtain ⟨k,v,n,s,a⟩:=x;rfl
theorem an (l:List EX):Cln (aO l):=fun r hr c g=>by
 rw [fV] at hr;obtain ⟨x,_,rfl⟩:=List.mem_map.1 hr;exact (BY g).1
theorem l4 (l:List EX):RowsOk 10 (aO l):=⟨by omega,fun c g=>by
 rw [fV] at g;obtain ⟨x,_,rfl⟩:=List.mem_map.1 g;exact ⟨Id x,(List.map_congr_left fun d hd=>(BY hd).2).trans (List.map_id _)⟩⟩
def exI (l:List EX) (i:Nat×Nat):Prop:=l.length≤i.1∧(fX l i.2).length=i.1*10
def lc (l:List EX):FX→Prop
 |none=>l= []
 |some (_,i)=>exI l i
def exS (a b:Nat) (l:List EX):FX→List (Nat×List AV)
 |none=> []
 |some (false,i)=> [(a,fX l i.2)]
 |some (true,i)=> [(b,fX l i.2)]
def exA (a b:Nat) (l:List EX):FX→AV
 |none=> .lst .nil 10 []
 |some (false,i)=> .sli a 10 l.length i.1
 |some (true,i)=> .sli b 10 l.length i.1
abbrev exG (a b:Nat) (x:EX) (f:FX):AV:= .agg (exH x.kind x.v x.name x.steps++ [exA a b x.args f])
theorem iP (st:St) (q:Nat) (l:List EX) (cap m:Nat) (hb:st.box q=some (fX l m,true)) (g:aW q=false):AVle1 st (.sli q 10 l.length cap) (.lst .any 10 (aO l)):=by
 rw [←bp l];exact .frz q 10 cap (aO l) (List.replicate m AV.top) hb (l4 l) g
def PO (n:Nat):Prop:= ∀(r:RD) (x:EX) (ok:Bool) (r' :RD),r.s.length≤1000000→4*r.s.length+1≤n→exF n .operand r=(x,ok,r')→MSX Tryz.prog 264 (rdS r) [.np 2000000 0] (lc x.args) (fun f=>rdS r' ++exS 1000001 1000002 x.args f) (fun f=> .tup [exG 1000001 1000002 x f,.bool ok])
def PC (n:Nat):Prop:= ∀(r:RD) (x:EX) (ok:Bool) (r' :RD),r.s.length≤1000000→4*r.s.length+2≤n→exF n .command r=(x,ok,r')→MSX Tryz.prog 245 (rdS r) [.np 2000000 0] (lc x.args) (fun f=>rdS r' ++exS 1000001 1000002 x.args f) (fun f=>exG 1000001 1000002 x f)
def PP (n:Nat):Prop:= ∀(r:RD) (x:EX) (ok:Bool) (r' :RD),r.s.length≤1000000→4*r.s.length+3≤n→exF n .pipe r=(x,ok,r')→MSX Tryz.prog 215 (rdS r) [.np 2000000 0] (lc x.args) (fun f=>rdS r' ++exS 1000001 1000002 x.args f) (fun f=>exG 1000001 1000002 x f)
theorem mn (r:RD) (l:List EX) (m:Nat) (q:Nat) (g:q=1000001∨q=1000002∨q=1000003∨q=1000004) (res:AV) (hr:okS [2000000] [(2000000,rdC r),(q,[])] res=true):okS [2000000] [(2000000,rdC r),(q,fX l m)] res=true:=by
 have h:=(an l).inS [2000000,q] m;unfold okS at hr⊢;rw [gA9,gA9] at hr⊢;refine ⟨⟨hr.1.1,?_⟩,hr.2⟩;show (true&&((fX l m).all (AV.inS [2000000,q])&&true))=true;rw [h];rfl
theorem tv (r:RD) (x:EX) (b:Bool) (f:FX) {g:Nat→Option (List AV×Bool)} (i:aX g (ap [2000000] (rdS r++exS 1000003 1000004 x.args f))=true):(okS [2000000] (rdS r++exS 1000003 1000004 x.args f) (.tup [exG 1000003 1000004 x f,.bool b])&&aX g (ap [2000000] (rdS r++exS 1000003 1000004 x.args f)))=true:=by
 rw [i,Bool.and_true];rcases f with _|⟨_|_,c,m⟩
 ·rfl
 ·exact mn r x.args m 1000003 (by omega) _ rfl
 ·exact mn r x.args m 1000004 (by omega) _ rfl
theorem JR (r:RD) (x:EX) (b:Bool) (f:FX) {g:Nat→Option (List AV×Bool)} (i:aX g (ap [2000000] (rdS r++exS 1000001 1000002 x.args f))=true):(okS [2000000] (rdS r++exS 1000001 1000002 x.args f) (.tup [exG 1000001 1000002 x f,.bool b])&&aX g (ap [2000000] (rdS r++exS 1000001 1000002 x.args f)))=true:=by
 rw [i,Bool.and_true];rcases f with _|⟨_|_,c,m⟩
 ·rfl
 ·exact mn r x.args m 1000001 (by omega) _ rfl
 ·exact mn r x.args m 1000002 (by omega) _ rfl
theorem zW (r:RD) (x:EX) (f:FX) {g:Nat→Option (List AV×Bool)} (i:aX g (ap [2000000] (rdS r++exS 1000001 1000002 x.args f))=true):(okS [2000000] (rdS r++exS 1000001 1000002 x.args f) (exG 1000001 1000002 x f)&&aX g (ap [2000000] (rdS r++exS 1000001 1000002 x.args f)))=true:=by
 rw [i,Bool.and_true];rcases f with _|⟨_|_,c,m⟩
 ·rfl
 ·exact mn r x.args m 1000001 (by omega) _ rfl
 ·exact mn r x.args m 1000002 (by omega) _ rfl
def zX (i:Nat):Nat:=swY 1000001 1000003 (swY 1000002 1000004 i)
theorem Ie (i j:Nat) (h:zX i=zX j):i=j:=aV _ _ (aV _ _ h)
theorem JS (i:Nat):aW (zX i)=aW i:=by unfold zX;rw [bm (by rfl),bm (by rfl)]
theorem Kl (q:Nat) (l:List EX) (m:Nat):my zX [(q,fX l m)]= [(zX q,fX l m)]:=by
 show [(zX q,(fX l m).map (AV.ren zX))]=_;rw [(an l).ren]
theorem PO.ren {n:Nat} (h:PO n) (r:RD) (x:EX) (ok:Bool) (r' :RD) (g:r.s.length≤1000000) (i:4*r.s.length+1≤n) (j:exF n .operand r=(x,ok,r')):MSX Tryz.prog 264 (rdS r) [.np 2000000 0] (lc x.args) (fun f=>rdS r' ++exS 1000003 1000004 x.args f) (fun f=> .tup [exG 1000003 1000004 x f,.bool ok]):=
 ((h r x ok r' g i j).ren zX Ie JS).impY (fun f=>f) (fun _ h=>h) (fun f=>by
  rcases f with _|⟨_|_,c,m⟩
  ·rfl
  ·exact congrArg (List.cons _) (Kl 1000001 x.args m).symm
  ·exact congrArg (List.cons _) (Kl 1000002 x.args m).symm) fun f=>by
  rcases f with _|⟨_|_,c,m⟩<;>rfl
theorem If (c:UInt8) (t:Bs):(toB (c::t)).data.getD (0:Int).toNat 0=c:=em (k:=0) rfl
theorem JT {c:UInt8} (n:Nat) (hn:n<256) (h:decide ((c.toNat:Int)=(n:Int))=true):c=n.toUInt8:=by
 rw [en c n hn] at h;simpa using h
theorem JU {c:UInt8} (n:Nat) (hn:n<256) (h:decide ((c.toNat:Int)=(n:Int))=false): ¬c=n.toUInt8:=by
 rw [en c n hn] at h;simpa using h
theorem LV (c:UInt8):(decide ((c.toNat:Int)=45)||decide ((c.toNat:Int)≥48)&&decide ((c.toNat:Int)≤57))=(c==45||xd c):=by
 rw [show ((45:Int))=((45:Nat):Int) from rfl,show ((48:Int))=((48:Nat):Int) from rfl,show ((57:Int))=((57:Nat):Int) from rfl,en c 45 (by omega),BV c 48 (by omega),BU c 57 (by omega)];rfl
theorem DR: ∀{n:Nat} {s:Bs},(bg n s).1= []→(bg n s).2=s
 |0,s,_=>rfl
 |n+1,[],_=>rfl
 |n+1,[d],_=>rfl
 |n+1,d::c::t,h=>by
  rw [ki] at h⊢;split at h
  ·cases h
  ·rename_i hd
   rw [if_neg hd]
theorem rW: ∀{n m:Nat} {s:Bs},s.length≤n→s.length≤m→bg n s=bg m s
 |0,m,[],_,_=>by cases m<;>rfl
 |n+1,m,[],_,_=>by cases m<;>rfl
 |n+1,m,[d],_,_=>by cases m<;>rfl
 |n+1,0,d::c::t,_,h=>by simp at h
 |n+1,m+1,d::c::t,g,i=>by
  rw [ki,ki];have hl:((c::t).drop (nmL (c::t)).length).length≤t.length+1:=by rw [gA6,gA3];omega
  simp only [gA3] at g i;rw [rW (n:=n) (m:=m) (by omega) (by omega)]
theorem FV (n:Nat) (hp:PP n):PO (n+1):=fun ⟨s,j,i⟩ x ok r' hl hn g=>by
 have hl:s.length≤1000000:=hl;have hn:4*s.length+1≤n+1:=hn;have hsk:=ml ⟨s,j,i⟩;have htl:=cA s;refine MSX.enterE Tryz.func264 g8 g9 (by rfl) (by rfl) fun E hE=> ?_
 show AK _ _ _ [.c cr] _ _;rw [cr];rw [exF] at g;have esk:(⟨s,j,i⟩:RD).skip=⟨tlw s,j,i⟩:=rfl;rw [esk] at hsk g;simp only [RD.fail,RD.to] at g;generalize tlw s=u at g htl hsk;refine kW ?_;refine kQ [.s [2000000] (rdS ⟨u,j,i⟩) (.tup [])] ?_;refine kW ?_;cases u with
 |nil=>
  dsimp only at g;cases g;refine kCt ?_ (by rfl);refine kW ?_;exact aR ⟨none,rfl,⟨_,rfl,rfl⟩,⟨_,rfl,rfl⟩,trivial⟩
 |cons c t=>
  rw [gA3] at htl;dsimp only at g;refine kC (fun hb=> ?_) fun hb=> ?_
  ·exfalso
   rw [bG] at hb;cases hb
  clear hb;refine kW ?_;refine kP [] ?_ ?_
  ·((repeat' apply aI)<;>first|exact kD|(intro r;refine ⟨?_,kG⟩;(repeat' apply aI)<;>first|exact kD|skip)|skip)
   all_goals (rw [ab,gA3];omega)
  rw [If];refine kW ?_;refine kC (fun hb=> ?_) fun hb=> ?_
  ·have p:c=34:=JT 34 (by omega) hb
   rw [if_pos p] at g;clear hb;have huq:=fT (toB (c::t)) (by rw [ab,gA3];omega);rw [show unq (toB (c::t))=lP (c::t) from rfl] at huq;rcases hu:lP (c::t) with _|⟨y,rest⟩
   ·rw [hu] at g huq
    dsimp only at g;cases g;have hfl:=iC ⟨c::t,j,i⟩ 11;refine kW ?_;refine kQ [.v (.tup [.str ⟨#[]⟩,.str ⟨#[]⟩,.int .i64 11])] ?_;refine kW ?_;refine kCt ?_;refine kW ?_;refine kQ [.s [2000000] (rdS ⟨[],j,if i=0 then 11 else i⟩) (exN EX.null)] ?_;exact aR ⟨none,rfl,⟨_,rfl,rfl⟩,⟨_,rfl,rfl⟩,trivial⟩
   ·rw [hu] at g huq
    dsimp only at g;cases g;have I:=ec (toB y);refine kW ?_;refine kQ [.v (.tup [.str (toB y),.str (toB rest),.int .i64 0])] ?_;refine kW ?_;refine kCf ?_;refine kW ?_;refine kQ [.v (vA (V.str (toB y)))] ?_;exact aR ⟨none,rfl,⟨_,rfl,rfl⟩,⟨_,rfl,rfl⟩,trivial⟩
  have n34: ¬c=34:=JU 34 (by omega) hb;rw [if_neg n34] at g;clear hb;refine AK.weak (wN (L:= [(0,.np 2000000 0),(2,.ptr 2 0),(4,.int .u8 c.toNat)]) (BL:= [(2,exZ,false),(2000000,rdC ⟨c::t,j,i⟩,false)]) ⟨kI,kI,kI,trivial⟩ ⟨kJ,kJ,trivial⟩ rfl rfl ⟨rfl,trivial⟩) ?_;refine kW ?_;refine kQ [] ?_;rw [LV];refine kC (fun hb=> ?_) fun hb=> ?_
  ·have p:c=45∨xd c=true:=by simpa using hb
   rw [if_pos p] at g;cases g;clear hb;have hnm:=FU ⟨c::t,j,i⟩ (by show (c::t).length≤_;rw [gA3];omega) rfl;refine kW ?_;refine kQ [.s [2000000] (rdS (qR ⟨c::t,j,i⟩).2) (exN (qR ⟨c::t,j,i⟩).1)] ?_;have P:=List.eq_nil_of_length_eq_zero (BN ⟨c::t,j,i⟩ rfl).1;exact aR ⟨none,P,⟨_,rfl,rfl⟩,⟨_,rfl,rfl⟩,trivial⟩
  have n45: ¬(c=45∨xd c=true):=by simpa using hb
  rw [if_neg n45] at g;clear hb;refine kW ?_;refine kC (fun hb=> ?_) fun hb=> ?_
  ·have p:c=46:=JT 46 (by omega) hb
   rw [if_pos p] at g;clear hb;have I:=BW ⟨c::t,j,i⟩ (by show (c::t).length≤_;rw [gA3];omega);have J:=DR (n:=(c::t).length) (s:=c::t);refine kW ?_;refine kQ [.s [2000000] (rdS ⟨(bg (c::t).length (c::t)).2,j,i⟩) (.lst .any 1 (b0 (bg (c::t).length (c::t)).1))] ?_;generalize bg (c::t).length (c::t)=w at g J⊢;clear I;obtain ⟨l,rest⟩:=w;dsimp only at g J;refine kW ?_;refine kC (fun hb=> ?_) fun hb=> ?_
   ·have P:l= []:=by
     have:(b0 l).length=0:=by simpa using hb
     rw [di] at this;exact List.eq_nil_of_length_eq_zero this
    clear hb;have hr:=J P;subst P;subst hr;rw [if_pos rfl] at g;cases g;refine kW ?_;refine kP [] ?_ ?_
    ·((repeat' apply aI)<;>first|exact kD|(intro r;refine ⟨?_,kG⟩;(repeat' apply aI)<;>first|exact kD|skip)|skip)
     all_goals (rw [ab,gA3];omega)
    rw [show ((1:Int)).toNat=((1:Nat):Int).toNat from rfl,bc,show (c::t).drop 1=t from rfl];refine kW ?_;exact aR ⟨none,rfl,⟨_,rfl,rfl⟩,⟨_,rfl,rfl⟩,trivial⟩
   ·have P: ¬l= []:=by
     intro h;subst h;cases hb
    clear hb;rw [if_neg P] at g;cases g;refine kW ?_;exact aR ⟨none,rfl,⟨_,rfl,rfl⟩,⟨_,rfl,rfl⟩,trivial⟩
  have n46: ¬c=46:=JU 46 (by omega) hb;rw [if_neg n46] at g;clear hb;refine kW ?_;refine kC (fun hb=> ?_) fun hb=> ?_
  ·have p:c=36:=JT 36 (by omega) hb
   rw [if_pos p] at g;clear hb;have hnm:=fP ⟨t,j,i⟩ (by show t.length≤_;omega);refine kW ?_;refine kP [] ?_ ?_
   ·((repeat' apply aI)<;>first|exact kD|(intro r;refine ⟨?_,kG⟩;(repeat' apply aI)<;>first|exact kD|skip)|skip)
    all_goals (rw [ab,gA3];omega)
   rw [show ((1:Int)).toNat=((1:Nat):Int).toNat from rfl,bc,show (c::t).drop 1=t from rfl];refine kW ?_;refine kQ [.s [2000000] (rdS ⟨t.drop (nmL t).length,j,i⟩) (.str (toB (nmL t)))] ?_;refine kW ?_;rw [bG (nmL t)];refine kC (fun hb=> ?_) fun hb=> ?_
   ·have P:nmL t= []:=by simpa using hb
    clear hb;rw [if_pos P] at g;cases g;have hfl:=iC ⟨t.drop (nmL t).length,j,i⟩ 20;refine kW ?_;refine kQ [.s [2000000] (rdS ⟨[],j,if i=0 then 20 else i⟩) (exN EX.null)] ?_;exact aR ⟨none,rfl,⟨_,rfl,rfl⟩,⟨_,rfl,rfl⟩,trivial⟩
   ·have P: ¬nmL t= []:=by simpa using hb
    clear hb;rw [if_neg P] at g;have hl2:(t.drop (nmL t).length).length≤t.length:=by rw [gA6];omega
    have I:=BW ⟨t.drop (nmL t).length,j,i⟩ (by show (t.drop (nmL t).length).length≤_;omega);dsimp only at I;rw [rW (m:=t.length) (gA4 _) hl2] at I;cases g;refine kW ?_;refine kQ [.s [2000000] (rdS ⟨(bg t.length (t.drop (nmL t).length)).2,j,i⟩) (.lst .any 1 (b0 (bg t.length (t.drop (nmL t).length)).1))] ?_;refine kW ?_;exact aR ⟨none,rfl,⟨_,rfl,rfl⟩,⟨_,rfl,rfl⟩,trivial⟩
  have n36: ¬c=36:=JU 36 (by omega) hb;rw [if_neg n36] at g;clear hb;refine kW ?_;refine kC (fun hb=> ?_) fun hb=> ?_
  ·have p:c=40:=JT 40 (by omega) hb
   rw [if_pos p] at g;clear hb;refine kW ?_;refine kC (fun hb=> ?_) fun hb=> ?_
   ·have h16:16<IntKind.i64.wrap (j+1):=by simpa using hb
    clear hb;rw [if_pos h16] at g;cases g;have hfl:=iC ⟨c::t,IntKind.i64.wrap (j+1),i⟩ 5;refine kW ?_;refine kQ [.s [2000000] (rdS ⟨[],IntKind.i64.wrap (j+1),if i=0 then 5 else i⟩) (exN EX.null)] ?_;exact aR ⟨none,rfl,⟨_,rfl,rfl⟩,⟨_,rfl,rfl⟩,trivial⟩
   have h16: ¬16<IntKind.i64.wrap (j+1):=by simpa using hb
   clear hb;rw [if_neg h16] at g;refine kW ?_;refine kP [] ?_ ?_
   ·((repeat' apply aI)<;>first|exact kD|(intro r;refine ⟨?_,kG⟩;(repeat' apply aI)<;>first|exact kD|skip)|skip)
    all_goals (rw [ab,gA3];omega)
   rw [show ((1:Int)).toNat=((1:Nat):Int).toNat from rfl,bc,show (c::t).drop 1=t from rfl];refine kW ?_;rcases hy:exF n .pipe ⟨t,IntKind.i64.wrap (j+1),i⟩ with ⟨y,by_,⟨T,R,C⟩⟩
   rw [hy] at g;dsimp only at g;have hM:=hp ⟨t,IntKind.i64.wrap (j+1),i⟩ y by_ ⟨T,R,C⟩ (by show t.length≤_;omega) (by show 4*t.length+3≤n;omega) hy;have U:=ml ⟨T,R,C⟩;rw [show (⟨T,R,C⟩:RD).skip=⟨tlw T,R,C⟩ from rfl] at U
   have hl1:T.length≤1000000:=by
    have:=(bN n .pipe ⟨t,IntKind.i64.wrap (j+1),i⟩).1;rw [hy] at this;have:y.args.length+T.length≤0+t.length:=this;omega
   have hl2:=cA T;generalize tlw T=u at g U hl2;have hpr:=eQ u 41;have hfl:=iC ⟨u,R,C⟩ 20
   have hcase:(bF 41 u=false∧(x,ok,r')=(EX.null,true,(⟨[],R,if C=0 then 20 else C⟩:RD)))∨ ∃u',u=41::u' ∧(x,ok,r')=(y,true,(⟨u',IntKind.i64.wrap (R-1),C⟩:RD)):=by
    cases u with
    |nil=>exact .inl ⟨rfl,g.symm⟩
    |cons d u' =>
     dsimp only at g;by_cases hd:d=41
     ·rw [if_pos hd] at g
      exact .inr ⟨u',by rw [hd],g.symm⟩
     ·rw [if_neg hd] at g
      exact .inl ⟨by simpa [bF] using hd,g.symm⟩
   clear g;refine AK.regs ?_;refine SK.run 1 [] trivial ?_;refine SK.callX (lc y.args) (fun f=>rdS ⟨T,R,C⟩++exS 1000001 1000002 y.args f) (fun f=>exG 1000001 1000002 y f) [2000000] hM (fun f hf=>zW _ y f (by rcases f with _|⟨_|_,c,m⟩<;>rfl)) fun f hf=> ?_
   rcases f with _|⟨_|_,cap,m⟩
   all_goals
    refine SK.all [] trivial ?_;refine kW ?_;refine kQ [.s [2000000] (rdS ⟨u,R,C⟩) (.tup [])] ?_;refine kW ?_;refine kQ [.v (.bool (bF 41 u))] ?_;rcases hcase with ⟨hh,g⟩|⟨u',rfl,g⟩
    ·cases g
     rw [hh];refine kCt ?_;refine kW ?_;refine kQ [.s [2000000] (rdS ⟨[],R,if C=0 then 20 else C⟩) (exN EX.null)] ?_;exact aR ⟨none,rfl,⟨_,rfl,rfl⟩,⟨_,rfl,rfl⟩,trivial⟩
    ·cases g
     refine kCf ?_ (by rfl);refine kW ?_;refine kP [] ?_ ?_
     ·((repeat' apply aI)<;>first|exact kD|(intro r;refine ⟨?_,kG⟩;(repeat' apply aI)<;>first|exact kD|skip)|skip)
      all_goals (rw [ab,gA3];omega)
     rw [show ((1:Int)).toNat=((1:Nat):Int).toNat from rfl,bc,show (41::u').drop 1=u' from rfl];refine kW ?_
     first
      |exact aR ⟨none,hf,⟨_,rfl,rfl⟩,⟨_,rfl,rfl⟩,trivial⟩
      |exact aR ⟨some (false,cap,m),hf,⟨_,rfl,rfl⟩,⟨_,rfl,rfl⟩,⟨_,rfl,(an _).told m⟩,trivial⟩
      |exact aR ⟨some (true,cap,m),hf,⟨_,rfl,rfl⟩,⟨_,rfl,rfl⟩,⟨_,rfl,(an _).told m⟩,trivial⟩
  have n40: ¬c=40:=JU 40 (by omega) hb;rw [if_neg n40] at g;clear hb;have hlt:=jt c;refine kW ?_;refine kQ [.v (.bool (il c))] ?_;refine kW ?_;refine kC (fun hb=> ?_) fun hb=> ?_
  ·rw [if_pos hb] at g
   clear hb hlt;have hnm:=fP ⟨c::t,j,i⟩ (by show (c::t).length≤_;rw [gA3];omega);refine kW ?_;refine kQ [.s [2000000] (rdS ⟨(c::t).drop (nmL (c::t)).length,j,i⟩) (.str (toB (nmL (c::t))))] ?_;refine kW ?_;generalize nmL (c::t)=w at g⊢;clear hnm;refine AK.weak (wN (L:= [(0,.np 2000000 0),(2,.ptr 2 0),(11,.str (toB (c::t))),(165,.str (toB w)),(170,.bool (decide (w=wTr)))]) (BL:= [(2,exZ,false),(2000000,[.str (toB ((c::t).drop w.length)),.int .i64 j,.int .i64 i],false)]) ⟨kI,kI,kI,kI,⟨_,rfl,.of_eq (congrArg AV.bool (decide_eq_decide.2 (cP (b:=wTr))))⟩,trivial⟩ ⟨kJ,kJ,trivial⟩ rfl rfl ⟨rfl,trivial⟩) ?_;by_cases p:w=wTr
   ·rw [if_pos (.inl p)] at g
    cases g;rw [decide_eq_true p];refine kCt ?_;refine kW ?_;refine kCt ?_;have hB:=jQ (c==116);refine kW ?_;refine kP [.v (vA (V.bool (c==116)))] ?_ ?_
    ·((repeat' apply aI)<;>first|exact kD|(intro r;refine ⟨?_,kG⟩;(repeat' apply aI)<;>first|exact kD|skip)|skip)
     all_goals first|(rw [ab,gA3];omega)|(rw [If,show ((116:Int))=((116:Nat):Int) from rfl,en c 116 (by omega)];exact hB)
    exact aR ⟨none,rfl,⟨_,rfl,rfl⟩,⟨_,rfl,rfl⟩,trivial⟩
   rw [decide_eq_false p];refine kCf ?_;refine kW ?_;rw [show decide (toB w=⟨#[102,97,108,115,101]⟩)=decide (w=wFa) from decide_eq_decide.2 (cP (b:=wFa))];by_cases h2:w=wFa
   ·rw [if_pos (.inr h2)] at g
    cases g;rw [decide_eq_true h2];refine kCt ?_;have hB:=jQ (c==116);refine kW ?_;refine kP [.v (vA (V.bool (c==116)))] ?_ ?_
    ·((repeat' apply aI)<;>first|exact kD|(intro r;refine ⟨?_,kG⟩;(repeat' apply aI)<;>first|exact kD|skip)|skip)
     all_goals first|(rw [ab,gA3];omega)|(rw [If,show ((116:Int))=((116:Nat):Int) from rfl,en c 116 (by omega)];exact hB)
    exact aR ⟨none,rfl,⟨_,rfl,rfl⟩,⟨_,rfl,rfl⟩,trivial⟩
   rw [if_neg (by rintro (h|h);exact p h;exact h2 h)] at g;rw [decide_eq_false h2];refine kCf ?_;refine kW ?_;rw [show decide (toB w=⟨#[110,105,108]⟩)=decide (w=wNi) from decide_eq_decide.2 (cP (b:=wNi))];by_cases h3:w=wNi
   ·rw [if_pos h3] at g
    cases g;rw [decide_eq_true h3];refine kCt ?_;refine kW ?_;exact aR ⟨none,rfl,⟨_,rfl,rfl⟩,⟨_,rfl,rfl⟩,trivial⟩
   rw [if_neg h3] at g;cases g;rw [decide_eq_false h3];refine kCf ?_;refine kW ?_;exact aR ⟨none,rfl,⟨_,rfl,rfl⟩,⟨_,rfl,rfl⟩,trivial⟩
  ·rw [if_neg (by rw [hb];decide)] at g
   cases g;refine kW ?_;exact aR ⟨none,rfl,⟨_,rfl,rfl⟩,⟨_,rfl,rfl⟩,trivial⟩
end
section
set_option maxRecDepth 100000
def ct:ACode:=
 .seq (gQ [⟨gO,.alloc 2 [.int .i64 0,.int .i64 0,.bool false,.int .i64 0,.str ⟨#[]⟩,.lst .nil 6 [],.lst .nil 7 [],.str ⟨#[]⟩,.lst .nil 1 [],.lst .nil 10 []]⟩]) (.seq (.seq (.regs [gM 12 0,⟨gO,.calls (some 13) (.k (.fn 264 [])) [.s 12]⟩,gM 11 13,gX 14 0 11,gX 15 1 11,⟨gO,.alloc 3 [.int .i64 0,.int .i64 0,.bool false,.int .i64 0,.str ⟨#[]⟩,.lst .nil 6 [],.lst .nil 7 [],.str ⟨#[]⟩,.lst .nil 1 [],.lst .nil 10 []]⟩,gT 10 3 14,gM 4 15]) (.seq (gQ [gM 16 4]) (.cond (.s 16) (.seq (gQ [gA 17 10 3,gT 10 2 17]) .ret) .skip))) (.seq (gQ [gM 18 0,⟨gO,.calls (some 19) (.k (.fn 158 [])) [.s 18]⟩,gM 5 19]) (.seq (.seq (gQ [gM 20 5,⟨gO,gB 21 .eql (.s 20) (gS ⟨#[]⟩)⟩]) (.cond (.s 21) (.seq (gQ [gM 22 0,⟨gO,.calls (some 23) (.k (.fn 216 [])) [.s 22,gI 20]⟩,gT 10 2 23]) .ret) .skip)) (.seq (gQ [gM 24 5,⟨gO,.build 25 [.int .i64 0,.int .i64 0,.bool false,.int .i64 0,.str ⟨#[]⟩,.lst .nil 6 [],.lst .nil 7 [],.str ⟨#[]⟩,.lst .nil 1 [],.lst .nil 10 []] [(0,1,gI 3),(7,1,.s 24)]⟩,⟨gO,.alloc 6 [.int .i64 0,.int .i64 0,.bool false,.int .i64 0,.str ⟨#[]⟩,.lst .nil 6 [],.lst .nil 7 [],.str ⟨#[]⟩,.lst .nil 1 [],.lst .nil 10 []]⟩,gT 10 6 25]) (.block 0 (.loop (.block 1 (.seq (.regs [gM 27 0,⟨gO,.calls (some 28) (.k (.fn 264 [])) [.s 27]⟩,gM 26 28,gX 29 0 26,gX 30 1 26,⟨gO,.alloc 7 [.int .i64 0,.int .i64 0,.bool false,.int .i64 0,.str ⟨#[]⟩,.lst .nil 6 [],.lst .nil 7 [],.str ⟨#[]⟩,.lst .nil 1 [],.lst .nil 10 []]⟩,gT 10 7 29,gM 8 30]) (.seq (.seq (gQ [gM 31 8,⟨gO,.un 32 .not (.s 31)⟩]) (.cond (.s 32) (.seq (gQ [gM 33 0,gF 34 0 33,gF 35 0 34,gL 36 35,gM 9 36]) (.seq (gQ [gM 37 0,⟨gO,.calls (some 38) (.k (.fn 158 [])) [.s 37]⟩,gM 10 38]) (.seq (gQ [gM 39 10,⟨gO,gB 40 .neq (.s 39) (gS ⟨#[]⟩)⟩]) (.cond (.s 40) (.reg [gM 41 10,⟨gO,.build 42 [.int .i64 0,.int .i64 0,.bool false,.int .i64 0,.str ⟨#[]⟩,.lst .nil 6 [],.lst .nil 7 [],.str ⟨#[]⟩,.lst .nil 1 [],.lst .nil 10 []] [(0,1,gI 3),(7,1,.s 41)]⟩,gT 10 7 42,⟨gO,.mov 8 (.k (.bool true))⟩]) (.reg [gM 43 0,gM 44 9,gF 45 0 43,gF 46 0 45,gT 1 46 44]))))) .skip)) (.seq (.seq (gQ [gM 47 8,⟨gO,.un 48 .not (.s 47)⟩]) (.cond (.s 48) (.seq (gQ [gA 49 10 6,gT 10 2 49]) .ret) .skip)) (.reg [gF 50 9 6,gL 51 50,gA 52 10 7,⟨gO,.bsl 53 1 10 [.int .i64 0,.int .i64 0,.bool false,.int .i64 0,.str ⟨#[]⟩,.lst .nil 6 [],.lst .nil 7 [],.str ⟨#[]⟩,.lst .nil 1 [],.lst .nil 10 []] [(0,10,.s 52)]⟩,⟨gO,.appr 54 10 160 (.s 51) (.s 53)⟩,gF 55 9 6,gT 1 55 54])))))))))))
def jv:AFn:=⟨1,56,ct,[.cell 2 10 true]⟩
theorem hU:ax Tryz.prog [2000216,2000213,2000158,2000290,2000289,2000264,2000245,2000215,2000059,2000112,2000058,2000159,2000110,2000105,4000054,5000001,5000008] Tryz.f245=some jv:=kk
theorem hZ:aa Tryz.prog 245=true:=kk
end
end Go.Proofs.YtbgflifmanjpjaaGreatDoor
