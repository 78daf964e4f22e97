/-
  The texts that the claim wants, one behind the other: part 11.
-/
import Derived.Test.YtdncaodccgfniaaDoorS10
import Derived.Test.YtdncaodccgfniaaDoorChecked
set_option linter.unusedSimpArgs false
set_option linter.unusedVariables false
namespace Go.Proofs.YtdncaodccgfniaaDoor
open Go.RowKit
theorem fw0 : Tryd.prog.follows .mixedOrders = true := by kernel_rfl
theorem kW {p q : Prop} (h : q) (f : q → p := by intro hh; (repeat (first | apply kS | apply kB | apply kL | apply kN | refine kA fw0 ?_)); exact hh) : p := f h
theorem kQ {P : Program} {E : Env} {Q : Exit → Fr → St → Prop} {k : List AItem} {fr fr' : Fr} {st st' : St} (rs : List RS) {l : List GI} {rs' : List RS} {p : Prop} (h : AK P E Q k fr' st') (hs : arun P l rs fr st = some (rs', fr', st', p) := by rfl)
  (hp : p := by (repeat' apply And.intro) <;> first | exact kD | (intro hgd; refine ⟨?_, kG⟩; (repeat' apply And.intro) <;> exact kD)) (hm : P.follows .mixedOrders = true := by exact fw0) : AK P E Q (.c (.reg l) :: k) fr st := kR hm rs hs hp h
theorem kP {P : Program} {E : Env} {Q : Exit → Fr → St → Prop} {k : List AItem} {fr fr' : Fr} {st st' : St} (rs : List RS) {l : List GI} {rs' : List RS} {p : Prop} (hp : p) (h : AK P E Q k fr' st') (hs : arun P l rs fr st = some (rs', fr', st', p) := by rfl) (hm : P.follows .mixedOrders = true := by exact fw0) : AK P E Q (.c (.reg l) :: k) fr st := kR hm rs hs hp h
theorem kE {P : Program} {mu : List Nat} {f : FuncId} {fn : Func} {af : AFn} {args : List AV} {r : AV} (hf : P.funcs[f]? = some fn) (haf : fnAF P mu fn = some af) (hcb : callable P f = true)
  (h : ∀ E : Env, E.n = af.n → AK P E (RQ af.res r) [.c af.body] (argFr 0 args) ⟨fun _ => none, fun _ => 0⟩) (hl : Nat.ble args.length af.n = true := by rfl) : AC P f args r := AC.enter hf haf hcb hl h
theorem kC {P : Program} {E : Env} {Q : Exit → Fr → St → Prop} {k : List AItem} {fr : Fr} {st : St} {x : Opd} {t e : ACode} {b : Bool} (h1 : b = true → AK P E Q (.c t :: k) fr st) (h2 : b = false → AK P E Q (.c e :: k) fr st) (hx : x.ev fr = some (.bool b) := by rfl) : AK P E Q (.c (.cond x t e) :: k) fr st := AK.cond hx h1 h2
theorem kI {st : St} {fr : Fr} {s : Nat} {x : AV} (h : fr s = some x := by rfl) : ∃ v, fr s = some v ∧ AVle st v x := ⟨x, h, .refl _⟩
theorem kJ {st : St} {s : Nat} {cs : List AV} {fz : Bool} (h : st.box s = some (cs, fz) := by rfl) : ∃ ds, st.box s = some (ds, fz) ∧ leL st ds cs := ⟨cs, h, leL_refl _⟩
theorem kU {st : St} {fr : Fr} {s : Nat} {k : IntKind} {a b : Int} (h : fr s = some (.int k a) := by rfl) (e : a = b := by first | omega | (rw [wrap_in (by omega) (by omega)]; omega)) : ∃ v, fr s = some v ∧ AVle st v (.int k b) := ⟨_, h, .of_eq (congrArg _ e)⟩
theorem byte_at {s : ByteArray} {k : Nat} (h : k < s.size) : s.data.getD k 0 = s[k] := by
 rw [Array.getD, dif_pos (show k < s.data.size from h)]
 rfl
def letN (c : Nat) : Bool := decide (65 ≤ c) && decide (c ≤ 90) || decide (97 ≤ c) && decide (c ≤ 122)
def moreN (c : Nat) : Bool := decide (48 ≤ c) && decide (c ≤ 57) || decide (c = 95) || decide (c = 45) || decide (c = 46) || decide (c = 47)
def bareAt (k c : Nat) : Bool := letN c || (!decide (k = 0) && moreN c)
def bareWord (s : ByteArray) : Bool := decide (s.size = 0) || decide (s = ⟨#[110, 117, 108, 108]⟩) || decide (s = ⟨#[116, 114, 117, 101]⟩) || decide (s = ⟨#[102, 97, 108, 115, 101]⟩)
def bareB (s : ByteArray) : Bool := !bareWord s && decide (∀ k, (h : k < s.size) → bareAt k s[k].toNat = true)
theorem bareB_no {s : ByteArray} {k : Nat} (h : k < s.size) (hb : bareAt k s[k].toNat = false) : bareB s = false := by
 unfold bareB
 rw [Bool.and_eq_false_iff]
 refine .inr (decide_eq_false fun hA => ?_)
 rw [hA k h] at hb
 cases hb
end Go.Proofs.YtdncaodccgfniaaDoor
