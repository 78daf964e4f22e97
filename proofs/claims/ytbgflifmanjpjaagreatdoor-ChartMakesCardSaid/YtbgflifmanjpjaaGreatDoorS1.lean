/- Part 1. -/
import Derived.KernelRfl
import Derived.WalkKit
import Derived.Deep.Draws
import Derived.Lib.Hide
set_option linter.unusedSimpArgs false
set_option linter.unusedVariables false
namespace Go.Proofs.YtbgflifmanjpjaaGreatDoor
theorem gC0 {α:Type _} {l:Array α} {i:Nat} {a:α} (h:l[i]? =some a): ∃h:i<l.size,l[i]=a:=Array.getElem?_eq_some_iff.1 h
theorem gC1 {α:Type _} {l m:List α} {n:Nat} (h:n<l.length):(l++m)[n]? =l[n]? :=List.getElem?_append_left h
theorem gC2 {α:Type _} {l m:List α} {n:Nat} (h:l.length≤n):(l++m)[n]? =m[n-l.length]? :=List.getElem?_append_right h
theorem gC3 (n m k:Nat):(n+m)*k=n*k+m*k:=Nat.add_mul n m k
theorem aI {a b:Prop} (h:a) (g:b):a∧b:=⟨h,g⟩
theorem gA0 {α:Type _} {l:List α} {i:Nat} {a:α} (h:l[i]? =some a): ∃h:i<l.length,l[i]=a:=List.getElem?_eq_some_iff.1 h
theorem gA1 {α:Type _} {l:List α} {i:Nat} (h:i<l.length):l[i]? =some l[i]:=List.getElem?_eq_getElem h
theorem gA2 {α:Type _} {l:List α} {i:Nat} {a:α} (h:l[i]? =some a):a∈l:=List.mem_of_getElem? h
theorem gA3 {α:Type _} {a:α} {l:List α}:(a::l).length=l.length+1:=List.length_cons
theorem gA4 (n:Nat):n≤n:=Nat.le_refl n
theorem gA5 {α:Type _} {l m:List α}:(l++m).length=l.length+m.length:=List.length_append
theorem gA6 {α:Type _} {i:Nat} {l:List α}:(l.drop i).length=l.length-i:=List.length_drop
theorem gA7 {α:Type _} {i:Nat} {l:List α}:(l.take i).length=min i l.length:=List.length_take
theorem gA8 {α β:Type _} {f:α→β} {l:List α} {i:Nat}:(l.map f)[i]? =Option.map f l[i]? :=List.getElem?_map
theorem gA9 (a b:Bool):((a&&b)=true)=(a=true∧b=true):=Bool.and_eq_true a b
theorem gB0 {p:Prop} [Decidable p]:(decide p=true)=p:=decide_eq_true_eq
theorem gB1 {α:Type _} {a b:α} (h:a∈ [b]):a=b:=List.mem_singleton.1 h
theorem gB2 {α:Type _} {a b:α} {l:List α} (h:a∈b::l):a=b∨a∈l:=List.mem_cons.1 h
theorem gB3 {p:Prop} [Decidable p] (h:decide p=true):p:=of_decide_eq_true h
theorem gB4 {p:Prop} [Decidable p] (h:decide p=false): ¬p:=of_decide_eq_false h
theorem gB5 {α:Type _} {a:α} {l m:List α} (h:a∈l++m):a∈l∨a∈m:=List.mem_append.1 h
theorem gB6 {α:Type _} {l:List α} {i:Nat} (h:l.length≤i):l.drop i= []:=List.drop_eq_nil_of_le h
theorem gB7 {a b c:Nat} (h:a≤b) (g:b≤c):a≤c:=Nat.le_trans h g
theorem gB8 (n:Nat):0≤n:=Nat.zero_le n
theorem gB9 {α:Type _} (a b:α):(some a=some b)=(a=b):=Option.some.injEq a b
theorem kk {p:Prop} (h:p:=by kernel_rfl):p:=h
open Go.RowKit
def LS {α:Type} (size:Nat) (R:List Value→α→Prop) (w:World) (B:Nat) (A:Option Addr) (l:List α):Prop:=
 ∀(i:Nat) (x:α),l[i]? =some x→ ∃b o,A=some ⟨b,o,none⟩∧b<B∧ ∃cs,cs.length=size∧R cs x∧
  ∀(j:Nat) (u:Value),cs[j]? =some u→w.cell? ⟨b,o+i*size+j,none⟩=some u
def Sl {α:Type} (size:Nat) (R:List Value→α→Prop) (w:World) (B:Nat) (v:Value) (l:List α):Prop:=
 ∃(A:Option Addr) (cap:Nat),v= .slice A l.length cap∧l.length≤cap∧LS size R w B A l
section
variable {α:Type} {size:Nat} {R R' :List Value→α→Prop} {w w' :World} {B B' :Nat} {v:Value} {l:List α}
theorem Sl.nil (c:Nat) (A:Option Addr):Sl size R w B (.slice A 0 c) []:=⟨A,c,rfl,gB8 _,fun i x hi=>by simp at hi⟩
end
section
variable {α:Type} {e:TypeId} {size:Nat} {R R' :List Value→α→Prop} {w w' :World} {base:Nat} {v:Value} {l:List α}
end
end Go.Proofs.YtbgflifmanjpjaaGreatDoor
