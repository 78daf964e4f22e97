/-
  The texts that the claim wants, one behind the other: part 4.
-/
import Derived.Test.YtgidajjjpeboeaaGreatDoorS3
import Derived.Laws.Strings
import Derived.Laws.Strings2
import Derived.Laws.Strings3
import Derived.Laws.Small
import Derived.Laws.IdiomStrings
set_option linter.unusedSimpArgs false
set_option linter.unusedVariables false
namespace Go.Proofs.YtgidajjjpeboeaaGreatDoor
open Go.RowKit
abbrev Then (E : Env) (fr : Fr) (st : St) (K : Act → World → Prop) : Prop := ∀ G a w, Conc E G fr st a w → K a w
section
variable {P : Program} {mu : List Nat} {E : Env} {G : Gho} {fr fr' : Fr} {st st' : St} {a : Act} {w : World} {o : Oper} {K : Act → World → Prop} {Q : Exit → Act → World → Prop} {p : Prop} {rs : Option RS} {i : AI} {gs : Bool}
theorem sim_value (h : Conc E G fr st a w) {v : Value} (hrun : (execOp a.eval o).run P w = .ok (.value v) w) {d : Nat} (hd : o.dst = some d) (hdn : d < E.n) {x : AV} (hx : RelS G v x) (hk : Then E (put1 fr d x) st K) : o.wp P a w K Q := by
 unfold Oper.wp
 rw [hrun, Oper.upon_value, hd]
 exact hk _ _ _ (h.put hdn hx)
theorem sim_mov (h : Conc E G fr st a w) {x : Operand} (ho : o.op = .move x ∨ o.op = .assign x) (hi : opAI P mu gs o = some i) (hs : astep P i rs fr st = some (fr', st', p)) (hp : p) (hn : ∀ d, o.dst = some d → d < E.n) (hk : Then E fr' st' K) : o.wp P a w K Q := by
 have hrun : (execOp a.eval o).run P w = .ok (.value (a.eval x)) w := by rcases ho with ho | ho <;> simp [execOp, ho]
 have hi' : (match o.dst, opdOf P o.type x with
  | some d, some x => some (AI.mov d x)
  | _, _ => none) = some i := by rcases ho with ho | ho <;> (unfold opAI at hi; rw [ho] at hi; exact hi)
 split at hi'
 ·rename_i d y hd hy
  cases hi'
  simp only [astep] at hs
  split at hs
  ·rename_i c hc
   cases hs
   exact sim_value h hrun hd (hn d hd) (h.ev hy hc) hk
  ·cases hs
 ·cases hi'
theorem sim_pick (h : Conc E G fr st a w) {c x y : Operand} (ho : o.op = .pick c x y) (hi : opAI P mu gs o = some i) (hs : astep P i rs fr st = some (fr', st', p)) (hp : p) (hn : ∀ d, o.dst = some d → d < E.n) (hk : Then E fr' st' K) : o.wp P a w K Q := by
 unfold opAI at hi
 rw [ho] at hi
 simp only at hi
 split at hi
 ·rename_i d c' x' y' hd hc hx hy
  cases hi
  simp only [astep] at hs
  split at hs
  ·rename_i cb hcv
   have hb := (h.ev hc hcv).bool
   have hrun : (execOp a.eval o).run P w = .ok (.value (if cb then a.eval x else a.eval y)) w := by simp [execOp, ho, hb, asBool]
   split at hs
   ·have hxv : a.eval x = .bool true := (h.ev (c := .bool true) hx rfl).bool
    split at hs
    ·rename_i g e hz
     cases hs
     refine sim_value h hrun hd (hn d hd) (x := .bool (cb || e)) ?_ hk
     cases cb with
     | true => rw [if_pos rfl, hxv]; exact ⟨.bool _, trivial⟩
     | false => rw [if_neg (by simp)]; exact (h.ev hy hz).1 (hp rfl)
    ·rename_i e hz
     cases hs
     refine sim_value h hrun hd (hn d hd) (x := .bool (cb || e)) ?_ hk
     cases cb with
     | true => rw [if_pos rfl, hxv]; exact ⟨.bool _, trivial⟩
     | false => rw [if_neg (by simp)]; exact h.ev hy hz
    ·cases hs
   ·split at hs
    ·have hyv : a.eval y = .bool false := (h.ev (c := .bool false) hy rfl).bool
     split at hs
     ·rename_i g e hz
      cases hs
      refine sim_value h hrun hd (hn d hd) (x := .bool (cb && e)) ?_ hk
      cases cb with
      | false => rw [if_neg (by simp), hyv]; exact ⟨.bool _, trivial⟩
      | true => rw [if_pos rfl]; exact (h.ev hx hz).1 (hp rfl)
     ·rename_i e hz
      cases hs
      refine sim_value h hrun hd (hn d hd) (x := .bool (cb && e)) ?_ hk
      cases cb with
      | false => rw [if_neg (by simp), hyv]; exact ⟨.bool _, trivial⟩
      | true => rw [if_pos rfl]; exact h.ev hx hz
     ·cases hs
    ·cases hs
  ·cases hs
 ·cases hi
theorem int_beq (x y : Int) : (x == y) = decide (x = y) := by rw [Bool.eq_iff_iff]; simp
theorem kind_of_eq {k k' : IntKind} (h : kindEq k k' = true) : k = k' := by
 unfold kindEq at h
 have := Nat.eq_of_beq_eq_true h
 cases k <;> cases k' <;> first | rfl | (simp [IntKind.ctorIdx] at this)
theorem bytes_beq (x y : ByteArray) : (x.toList == y.toList) = decide (x = y) := by
 rw [Bool.eq_iff_iff, beq_iff_eq, decide_eq_true_eq, ByteArray.toList_eq, ByteArray.toList_eq]
 exact ⟨fun e => ByteArray.ext (Array.ext' e), fun e => by rw [e]⟩
theorem bytes_leq : ∀ a b : List UInt8, (Op.bytesLess a b || a == b) = !Op.bytesLess b a
 | [], [] => rfl
 | [], b :: bs => by simp [Op.bytesLess]
 | a :: as, [] => by simp [Op.bytesLess]
 | a :: as, b :: bs => by
  have ih := bytes_leq as bs
  simp only [Op.bytesLess]
  by_cases h : a = b
  ·subst h
   simp only [UInt8.lt_irrefl, decide_false, Bool.false_or, beq_self_eq_true, Bool.true_and, List.cons_beq_cons]
   exact ih
  ·have hne : (a == b) = false := by simpa using h
   have hne' : (b == a) = false := by simpa using fun e => h e.symm
   simp only [hne, hne', Bool.false_and, Bool.or_false, List.cons_beq_cons]
   by_cases hlt : a < b
   ·have : ¬ b < a := fun k => UInt8.lt_irrefl _ (UInt8.lt_trans hlt k)
    simp [hlt, this]
   ·have : b < a := by
     rcases UInt8.lt_or_lt_of_ne h with k | k
     ·exact absurd k hlt
     ·exact k
    simp [hlt, this]
theorem intBin_run (op : BinOp) (k : IntKind) (x y : Int) {c : AV} {p : Prop} (h : intBin op k x y = some (c, p)) (hp : p) (t : TypeId) (w : World) : ∃ v, (binOp op t (.int k x) (.int k y)).run P w = .ok v w ∧ ∀ G, RelS G v c := by
 cases op <;> simp only [intBin, Option.some.injEq, Prod.mk.injEq, reduceCtorEq] at h <;> (try obtain ⟨rfl, rfl⟩ := h)
 ·exact ⟨_, by simp [binOp, Op.intArith], fun G => ⟨.int _ _, trivial⟩⟩
 ·exact ⟨_, by simp [binOp, Op.intArith], fun G => ⟨.int _ _, trivial⟩⟩
 ·exact ⟨_, by simp [binOp, Op.intArith], fun G => ⟨.int _ _, trivial⟩⟩
 ·exact ⟨_, by simp [binOp, Op.intDiv, hp], fun G => ⟨.int _ _, trivial⟩⟩
 ·exact ⟨_, by simp [binOp, Op.intDiv, hp], fun G => ⟨.int _ _, trivial⟩⟩
 ·exact ⟨.int k (bits .and k x y), by simp [binOp, intBits_and], fun G => ⟨.int _ _, trivial⟩⟩
 ·exact ⟨.int k (bits .or k x y), by simp [binOp, intBits_or], fun G => ⟨.int _ _, trivial⟩⟩
 ·exact ⟨.int k (bits .xor k x y), by simp [binOp, intBits_xor], fun G => ⟨.int _ _, trivial⟩⟩
 ·exact ⟨.bool (decide (x = y)), by simp [binOp, Op.intCmp, int_beq], fun G => ⟨.bool _, trivial⟩⟩
 ·exact ⟨.bool (!decide (x = y)), by simp [binOp, Op.intCmp, bne, int_beq], fun G => ⟨.bool _, trivial⟩⟩
 ·exact ⟨.bool (decide (x < y)), by simp [binOp, Op.intCmp], fun G => ⟨.bool _, trivial⟩⟩
 ·exact ⟨.bool (decide (x ≤ y)), by simp [binOp, Op.intCmp], fun G => ⟨.bool _, trivial⟩⟩
 ·exact ⟨.bool (decide (x > y)), by simp [binOp, Op.intCmp], fun G => ⟨.bool _, trivial⟩⟩
 ·exact ⟨.bool (decide (x ≥ y)), by simp [binOp, Op.intCmp], fun G => ⟨.bool _, trivial⟩⟩
theorem strBin_run (op : BinOp) (x y : ByteArray) {c : AV} {p : Prop} (h : strBin op x y = some (c, p)) (hp : p) (t : TypeId) (w : World) : ∃ v, (binOp op t (.string x) (.string y)).run P w = .ok v w ∧ ∀ G, RelS G v c := by
 cases op <;> simp only [strBin, Option.some.injEq, Prod.mk.injEq, reduceCtorEq] at h <;> (try obtain ⟨rfl, rfl⟩ := h)
 ·refine ⟨.string (x ++ y), ?_, fun G => ⟨.str _, trivial⟩⟩
  have : ¬ ((x.size + y.size : Nat) : Int) > IntKind.i64.max := by simp only [IntKind.max, IntKind.signed, IntKind.bits]; simp; omega
  simp only [binOp, Op.stringOp, if_neg this, Sem.run_pure]
 ·exact ⟨.bool (decide (x = y)), by simp [binOp, Op.stringOp, bytes_beq], fun G => ⟨.bool _, trivial⟩⟩
 ·exact ⟨.bool (!decide (x = y)), by simp [binOp, Op.stringOp, bytes_beq], fun G => ⟨.bool _, trivial⟩⟩
 ·exact ⟨_, by simp only [binOp, Op.stringOp, Sem.run_pure], fun G => ⟨.bool _, trivial⟩⟩
 ·exact ⟨.bool (!Op.bytesLess y.toList x.toList), by simp only [binOp, Op.stringOp, Sem.run_pure, bytes_leq], fun G => ⟨.bool _, trivial⟩⟩
 ·exact ⟨.bool (Op.bytesLess y.toList x.toList), by simp only [binOp, Op.stringOp, Sem.run_pure, bytes_leq, Bool.not_not], fun G => ⟨.bool _, trivial⟩⟩
 ·exact ⟨_, by simp only [binOp, Op.stringOp, Sem.run_pure], fun G => ⟨.bool _, trivial⟩⟩
theorem boolBin_run (op : BinOp) (x y : Bool) {c : AV} {p : Prop} (h : boolBin op x y = some (c, p)) (t : TypeId) (ht : isBoolT P t = true) (w : World) : ∃ v, (binOp op t (.bool x) (.bool y)).run P w = .ok v w ∧ ∀ G, RelS G v c := by
 have hu : P.underlying t = some .bool := by
  unfold isBoolT at ht
  split at ht
  ·assumption
  ·cases ht
 have he : (Op.equal t (.bool x) (.bool y)).run P w = .ok (x == y) w := run_equal_bool w t x y hu
 cases op <;> simp only [boolBin, Option.some.injEq, Prod.mk.injEq, reduceCtorEq] at h <;> (try obtain ⟨rfl, rfl⟩ := h)
 ·exact ⟨.bool (x == y), by simp [binOp, he], fun G => ⟨.bool _, trivial⟩⟩
 ·exact ⟨.bool (x != y), by simp [binOp, he, bne], fun G => ⟨.bool _, trivial⟩⟩
theorem eqGuard_none {op : BinOp} {t : TypeId} {x y : Operand} {u v : Value} (hu : u.oneCell' = true) (hn : u ≠ .nilIface) (w : World) : (eqGuard op t x y u v).run P w = .ok () w := by
 unfold eqGuard
 cases op <;> simp <;> (cases u <;> cases v <;> simp_all [Value.oneCell'])
theorem flat_of {σ : Sg} : ∀ {vs us : List Value} {cs : List AV}, RelL σ vs (cs.map AV.unown) → pcells cs = some us → vs = us
 | [], us, [], h, hf => by cases hf; rfl
 | [], _, _ :: _, h, _ => by have := h.1; simp at this
 | _ :: _, _, [], h, _ => by have := h.1; simp at this
 | v :: vs, us, c :: cs, h, hf => by
  unfold pcells at hf
  split at hf
  ·rename_i u us' hu hus
   cases hf
   have h1 := h.head
   rw [flat_of h.tail hus]
   cases c <;> simp only [pcell, reduceCtorEq] at hu <;> cases hu <;> cases h1 <;> rfl
  ·cases hf
theorem structEq_op {op : BinOp} {t : TypeId} {neg : Bool} (h : structEq P op t = some neg) : op = eqOp neg := by
 unfold structEq at h
 split at h
 ·split at h
  ·cases h; rfl
  ·cases h
 ·split at h
  ·cases h; rfl
  ·cases h
 ·cases h
theorem isC_one {t : TypeId} {x : Operand} {x' : Opd} {u : Value} (hx : opdOf P t x = some x') (hu : x'.ev fr = some (.raw u)) (hk : x'.isK = true) : isC x = true := by
 cases x with
 | const v => rfl
 | tmp n => cases hx; cases hk
 | func f => cases hx; cases hu
 | «global» g => cases hx
theorem isC_of {t : TypeId} {x y : Operand} {x' y' : Opd} {u v : Value} (hx : opdOf P t x = some x') (hu : x'.ev fr = some (.raw u)) (hy : opdOf P t y = some y') (hv : y'.ev fr = some (.raw v)) (hk : (x'.isK || y'.isK) = true) : (isC x || isC y) = true := by
 rw [Bool.or_eq_true] at hk ⊢
 exact hk.imp (isC_one hx hu) (isC_one hy hv)
theorem sim_bin (h : Conc E G fr st a w) {op : BinOp} {t t' : TypeId} {x y : Operand} (ho : o.op = .binOp op t x y t') (hi : opAI P mu gs o = some i) (hs : astep P i rs fr st = some (fr', st', p)) (hp : p) (hn : ∀ d, o.dst = some d → d < E.n) (hk : Then E fr' st' K) : o.wp P a w K Q := by
 unfold opAI at hi
 rw [ho] at hi
 simp only at hi
 split at hi
 ·rename_i d x' y' hd hx hy
  split at hi
  ·rename_i neg hneg
   cases hi
   have hop := structEq_op hneg
   subst hop
   simp only [astep] at hs
   split at hs
   ·rename_i cs ds hu hv
    obtain ⟨us, e1, r1, _⟩ := h.ev hx hu
    obtain ⟨vs, e2, r2, _⟩ := h.ev hy hv
    split at hs
    ·rename_i us' vs' hfu hfv
     cases hs
     have := flat_of r1 hfu
     subst this
     have := flat_of r2 hfv
     subst this
     obtain ⟨k1, k2⟩ := hp w x y
     exact sim_value h (by simp only [execOp, ho, e1, e2, Sem.run_bind, k1, Result.andThen_ok, k2]; exact Sem.run_pure ..) hd (hn d hd) (by exact ⟨.bool _, trivial⟩) hk
    ·cases hs
   ·rename_i u' v' hu hv
    have e1 : a.eval x = u' := (h.ev hx hu).raw
    have e2 : a.eval y = v' := (h.ev hy hv).raw
    split at hs
    ·split at hs
     ·rename_i hkk
      cases hs
      obtain ⟨k1, k2⟩ := hp w x y (isC_of hx hu hy hv hkk)
      exact sim_value h (by simp only [execOp, ho, e1, e2, Sem.run_bind, k1, Result.andThen_ok, k2]; exact Sem.run_pure ..) hd (hn d hd) (by exact ⟨.bool _, trivial⟩) hk
     ·cases hs
    ·cases hs
   ·rename_i id0 of0 v' hu hv
    obtain ⟨_, _, g0, e1, _⟩ := h.ev hx hu
    have e2 : a.eval y = v' := (h.ev hy hv).raw
    split at hs
    ·rename_i hnq hkk hmp
     cases hs
     rw [npV_ptr hmp] at e1
     have hcc : (isC x || isC y) = true := by rw [isC_one hy hv hkk, Bool.or_true]
     obtain ⟨k1, k2⟩ := hp g0 of0 w x y hcc
     refine sim_value h (by simp only [execOp, ho, e1, e2, Sem.run_bind, k1, Result.andThen_ok, k2]; exact Sem.run_pure ..) hd (hn d hd) (by cases neg <;> exact ⟨.bool _, trivial⟩) hk
    ·cases hs
   ·cases hs
  cases hi
  simp only [astep] at hs
  split at hs
  ·rename_i u v hu hv
   have h1 := h.ev hx hu
   have h2 := h.ev hy hv
   split at hs
   ·rename_i c q hb
    cases hs
    have key : ∃ r, (binOp op t (a.eval x) (a.eval y)).run P w = .ok r w ∧ (∀ G, RelS G r c) ∧ (a.eval x).oneCell' = true ∧ a.eval x ≠ .nilIface := by
     unfold binAV at hb
     split at hb
     ·split at hb
      ·cases hb
       rw [h1.int, h2.int]
       refine ⟨_, ?_, fun G => (show RelS G _ _ from ⟨.int _ _, trivial⟩), rfl, by simp⟩
       have : ¬ (_ : Int) < 0 := Int.not_lt.2 hp
       simp only [binOp, Op.shift, if_neg this, Sem.run_pure]
      ·cases hb
       rw [h1.int, h2.int]
       refine ⟨_, ?_, fun G => (show RelS G _ _ from ⟨.int _ _, trivial⟩), rfl, by simp⟩
       have : ¬ (_ : Int) < 0 := Int.not_lt.2 hp
       simp only [binOp, Op.shift, if_neg this, Sem.run_pure]
      split at hb
      ·rename_i hkk
       have := kind_of_eq hkk
       subst this
       rw [h1.int, h2.int]
       obtain ⟨r, hr, hg⟩ := intBin_run op _ _ _ hb hp t w (P := P)
       exact ⟨r, hr, hg, rfl, by simp⟩
      ·cases hb
     ·rw [h1.str, h2.str]
      obtain ⟨r, hr, hg⟩ := strBin_run op _ _ hb hp t w (P := P)
      exact ⟨r, hr, hg, rfl, by simp⟩
     ·split at hb
      ·rename_i hbt
       rw [h1.bool, h2.bool]
       obtain ⟨r, hr, hg⟩ := boolBin_run op _ _ hb t hbt w (P := P)
       exact ⟨r, hr, hg, rfl, by simp⟩
      ·cases hb
     ·cases hb
    obtain ⟨r, hr, hg, h3, h4⟩ := key
    exact sim_value h (by simp [execOp, ho, eqGuard_none h3 h4, hr]) hd (hn d hd) (hg G) hk
   ·cases hs
  ·cases hs
 ·cases hi
theorem sim_un (h : Conc E G fr st a w) {op : UnOp} {t : TypeId} {x : Operand} (ho : o.op = .unOp op t x) (hi : opAI P mu gs o = some i) (hs : astep P i rs fr st = some (fr', st', p)) (hn : ∀ d, o.dst = some d → d < E.n) (hk : Then E fr' st' K) : o.wp P a w K Q := by
 unfold opAI at hi
 rw [ho] at hi
 simp only at hi
 split at hi
 ·rename_i d x' hd hx
  cases hi
  simp only [astep] at hs
  split at hs
  ·rename_i u hu
   have h1 := h.ev hx hu
   split at hs
   ·rename_i c hc
    cases hs
    cases u <;> simp only [unAV, reduceCtorEq] at hc
    ·rename_i k n
     have := h1.int
     cases op <;> simp only [reduceCtorEq] at hc
     cases hc
     exact sim_value h (v := .int k (k.wrap (0 - n))) (x := .int k (k.wrap (0 - n))) (by simp [execOp, ho, this, Op.unary, Op.intArith]) hd (hn d hd) ⟨.int _ _, trivial⟩ hk
    ·rename_i b
     have := h1.bool
     cases op <;> simp only [reduceCtorEq] at hc
     cases hc
     exact sim_value h (v := .bool (!b)) (x := .bool (!b)) (by simp [execOp, ho, this, Op.unary]) hd (hn d hd) ⟨.bool _, trivial⟩ hk
   ·cases hs
  ·cases hs
 ·cases hi
def Cells (w : World) (b o : Nat) (vs : List Value) : Prop := ∀ (j : Nat) v, vs[j]? = some v → w.cell? ⟨b, o + j, none⟩ = some v
theorem Cells.add {b o : Nat} {vs : List Value} (h : Cells w b o vs) : ∀ (j : Nat) v, vs[j]? = some v → w.cell? ((⟨b, o, none⟩ : Addr).add j) = some v := fun j v hv => by rw [Addr.add_lit]; exact h j v hv
theorem run_isAgg {t : TypeId} (hu : (P.underlying t).isSome = true) : (isAgg t).run P w = .ok (isAggT P t) w := by
 obtain ⟨d, hd⟩ := Option.isSome_iff_exists.1 hu
 unfold isAgg isAggT
 rw [Sem.run_bind, run_underlying hd w]
 simp only [Result.andThen_ok, hd]
 cases d <;> rfl
theorem run_loadVar_agg {t : TypeId} {inf : TypeInfo} (hu : (P.underlying t).isSome = true) (hi : P.info? t = some inf) (ha : isAggT P t = true) {b o : Nat} {vs : List Value} (hc : Cells w b o vs) (hl : vs.length = inf.size) :
  (loadVar t ⟨b, o, none⟩).run P w = .ok (.agg vs.toArray) w := by
 have h1 := run_loadCells_list (P := P) w ⟨b, o, none⟩ vs hc.add
 rw [hl] at h1
 simp [loadVar, run_isAgg hu, ha, sizeOf, typeInfo, hi, h1]
theorem run_loadVar_one {t : TypeId} (hu : (P.underlying t).isSome = true) (ha : isAggT P t = false) {b o : Nat} {v : Value} (hc : w.cell? ⟨b, o, none⟩ = some v) : (loadVar t ⟨b, o, none⟩).run P w = .ok v w := by
 simp [loadVar, run_isAgg hu, ha, hc]
theorem takeN_spec : ∀ {n : Nat} {l r : List AV}, takeN n l = some r → r = l.take n ∧ r.length = n
 | 0, l, r, h => by cases h; simp
 | n + 1, a :: l, r, h => by
  unfold takeN at h
  split at h
  ·rename_i r' hr
   cases h
   obtain ⟨h1, h2⟩ := takeN_spec hr
   exact ⟨by rw [h1, List.take_succ_cons], by simp [h2]⟩
  ·cases h
 | n + 1, [], r, h => by cases h
theorem dropN_spec : ∀ {n : Nat} {l r : List AV}, dropN n l = some r → r = l.drop n ∧ n ≤ l.length
 | 0, l, r, h => by cases h; simp
 | n + 1, a :: l, r, h => by
  unfold dropN at h
  obtain ⟨h1, h2⟩ := dropN_spec h
  simp [h1, h2]
 | n + 1, [], r, h => by cases h
theorem getN_spec : ∀ {n : Nat} {l : List AV} {a : AV}, getN n l = some a → l[n]? = some a
 | 0, b :: l, a, h => by cases h; rfl
 | n + 1, b :: l, a, h => by
  unfold getN at h
  simpa using getN_spec h
 | 0, [], a, h => by cases h
 | n + 1, [], a, h => by cases h
theorem box_cells {g : Nat} {t : TypeId} {vs : Array Value} (hg : w.heap[g]? = some (.cells vs t (0, 0))) (o : Nat) : Cells w g o (vs.toList.drop o) := by
 intro j v hv
 rw [List.getElem?_drop] at hv
 simp [World.cell?, hg]
 simpa using hv
theorem load_rel {t : TypeId} {inf : TypeInfo} (hu : (P.underlying t).isSome = true) (hi : P.info? t = some inf) {b o : Nat} {vs : List Value} {cs : List AV} (hc : Cells w b o vs) (hr : RelL G.σ vs (cs.map AV.unown)) (ht : TagsOk G vs cs) :
  (∀ cs', isAggT P t = true → takeN inf.size cs = some cs' → ∃ v, (loadVar t ⟨b, o, none⟩).run P w = .ok v w ∧ RelS G v (.agg cs')) ∧
  ∀ c, isAggT P t = false → getN 0 cs = some c → ∃ v, (loadVar t ⟨b, o, none⟩).run P w = .ok v w ∧ RelS G v c := by
 refine ⟨fun cs' ha hk => ?_, fun c ha hk => ?_⟩
 ·obtain ⟨h1, h2⟩ := takeN_spec hk
  have h3 := hr.take inf.size
  have hl : (vs.take inf.size).length = inf.size := by rw [h3.1, ← List.map_take, List.length_map, ← h1, h2]
  refine ⟨.agg (vs.take inf.size).toArray, run_loadVar_agg hu hi ha (fun j v hv => ?_) hl, vs.take inf.size, rfl, by rw [h1, List.map_take]; exact h3, fun j v x hv hx => ?_⟩
  ·rw [List.getElem?_take] at hv
   split at hv
   ·exact hc j v hv
   ·cases hv
  ·rw [h1] at hx
   rw [List.getElem?_take] at hv hx
   split at hv
   ·rw [if_pos (by assumption)] at hx; exact ht j v x hv hx
   ·cases hv
 ·have h0 := getN_spec hk
  have h0' : (cs.map AV.unown)[0]? = some c.unown := by rw [List.getElem?_map, h0]; rfl
  obtain ⟨v, hv, hvr⟩ := hr.at_ h0'
  exact ⟨v, run_loadVar_one hu ha (by simpa using hc 0 v hv), RelS.mk1 hvr (ht 0 v c hv h0)⟩
theorem ro_open {v : Value} {cs : List AV} (h : RelS G v (.ro cs)) : ∃ b o vs, v = .pointer (some ⟨b, o, none⟩) ∧ RelL G.σ vs cs ∧ ∀ (j : Nat) u, vs[j]? = some u → G.σ b (o + j) = some u := by
 have := (h.1 : Rel1 G.σ v (.ro cs))
 cases this with
 | ro cs b o f hσ hr =>
  refine ⟨b, o, (List.range cs.length).map f, rfl, ⟨by simp, fun j u c hu hc => ?_⟩, fun j u hu => ?_⟩
  ·have hj := (List.getElem?_eq_some_iff.1 hc).1
   rw [List.getElem?_map, List.getElem?_range hj] at hu
   cases hu
   exact hr j c hc
  ·rw [List.getElem?_map] at hu
   cases hx : (List.range cs.length)[j]? with
   | none => rw [hx] at hu; cases hu
   | some x =>
    rw [hx] at hu
    cases hu
    obtain ⟨hj, hxe⟩ := List.getElem?_eq_some_iff.1 hx
    simp at hj hxe
    subst hxe
    exact hσ _ hj
theorem sim_ld (h : Conc E G fr st a w) {t : TypeId} {x : Operand} (ho : o.op = .load t x) (hi : opAI P mu gs o = some i) (hs : astep P i rs fr st = some (fr', st', p)) (hp : p) (hn : ∀ d, o.dst = some d → d < E.n) (hk : Then E fr' st' K) : o.wp P a w K Q := by
 unfold opAI at hi
 rw [ho] at hi
 simp only at hi
 split at hi
 ·rename_i d x' inf hd hx hinf
  split at hi
  ·rename_i hu
   cases hi
   simp only [astep] at hs
   split at hs
   ·rename_i id off hpv
    obtain ⟨g, hB, hv, _⟩ := h.ev hx hpv
    split at hs
    ·rename_i cs fz hb
     obtain ⟨hb, hmp⟩ := cbox_some hb
     obtain ⟨g', hB', h1, ty, vs, hg, hrl, htg, hfz⟩ := h.box id cs fz hb
     replace hg := hg.cells hmp
     rw [hB] at hB'
     cases hB'
     split at hs
     ·rename_i cs' hdr
      obtain ⟨hd1, hd2⟩ := dropN_spec hdr
      have hL := load_rel (P := P) (G := G) hu hinf (box_cells hg off) (cs := cs') (by rw [hd1, List.map_drop]; exact hrl.drop off) (fun j u c hu' hc' => by rw [hd1] at hc'; exact htg (off + j) u c (by simpa using hu') (by simpa using hc'))
      split at hs
      ·rename_i ha
       split at hs
       ·rename_i cs2 htk
        cases hs
        obtain ⟨v, hrun, hrel⟩ := hL.1 _ ha htk
        exact sim_value h (by simp [execOp, ho, hv, Instr.loadAt, Instr.sureAddr, hrun]) hd (hn d hd) hrel hk
       ·cases hs
      ·rename_i ha
       split at hs
       ·rename_i c hgt
        cases hs
        obtain ⟨v, hrun, hrel⟩ := hL.2 _ ha hgt
        exact sim_value h (by simp [execOp, ho, hv, Instr.loadAt, Instr.sureAddr, hrun]) hd (hn d hd) hrel hk
       ·cases hs
     ·cases hs
    ·cases hs
   ·rename_i cs hpv
    obtain ⟨b, off, vs, hv, hrl, hσ⟩ := ro_open (h.ev hx hpv)
    have hcl : Cells w b off vs := fun j u hu => h.hold _ _ _ (hσ j u hu)
    have hL := load_rel (P := P) (G := G) hu hinf hcl (cs := cs) (by rw [hrl.map_unown]; exact hrl) hrl.tags
    split at hs
    ·rename_i ha
     split at hs
     ·rename_i cs2 htk
      cases hs
      obtain ⟨v, hrun, hrel⟩ := hL.1 _ ha htk
      exact sim_value h (by simp [execOp, ho, hv, Instr.loadAt, Instr.sureAddr, hrun]) hd (hn d hd) hrel hk
     ·cases hs
    ·rename_i ha
     split at hs
     ·rename_i c hgt
      cases hs
      obtain ⟨v, hrun, hrel⟩ := hL.2 _ ha hgt
      exact sim_value h (by simp [execOp, ho, hv, Instr.loadAt, Instr.sureAddr, hrun]) hd (hn d hd) hrel hk
     ·cases hs
   ·rename_i id esz ie k c hpv
    obtain ⟨_, g0, hv0, hg0⟩ := h.ev hx hpv
    split at hs
    ·rename_i cs fz hb
     obtain ⟨hb, hmp⟩ := cbox_some hb
     obtain ⟨g, hB, h1, ty, vs, hg, hrl, htg, hfz⟩ := h.box id cs fz hb
     replace hg := hg.cells hmp
     have hv := hv0
     rw [← hg0 g hB] at hv
     split at hs
     ·rename_i c' hdr
      obtain ⟨hd1, hd2⟩ := dropN_spec hdr
      have hL : c.length = esz ∧ (cs.drop (ie * esz)).take esz = c → _ := fun hc => load_rel (P := P) (G := G) hu hinf (w := w) (b := g) (o := ie * esz + k) (vs := ((vs.toList.drop (ie * esz)).take esz).drop k) (cs := c')
       (fun j u hj => box_cells hg (ie * esz + k) j u (by
        rw [List.getElem?_drop, List.getElem?_take] at hj
        split at hj
        ·rw [List.getElem?_drop] at hj
         rw [List.getElem?_drop, ← hj, Nat.add_assoc]
        ·cases hj))
       (by rw [hd1, ← hc.2, List.map_drop, List.map_take, List.map_drop]; exact ((hrl.drop _).take _).drop _)
       (fun j u x hu' hx' => by
        rw [hd1, ← hc.2, List.getElem?_drop, List.getElem?_take] at hx'
        rw [List.getElem?_drop, List.getElem?_take] at hu'
        split at hx'
        ·rename_i hlt
         rw [if_pos hlt] at hu'
         rw [List.getElem?_drop] at hx' hu'
         exact htg _ u x hu' hx'
        ·cases hx')
      split at hs
      ·rename_i ha
       split at hs
       ·rename_i cs2 htk
        cases hs
        obtain ⟨v, hrun, hrel⟩ := (hL hp).1 _ ha htk
        exact sim_value h (by simp [execOp, ho, hv, Instr.loadAt, Instr.sureAddr, hrun]) hd (hn d hd) hrel hk
       ·cases hs
      ·rename_i ha
       split at hs
       ·rename_i x2 hgt
        cases hs
        obtain ⟨v, hrun, hrel⟩ := (hL hp).2 _ ha hgt
        exact sim_value h (by simp [execOp, ho, hv, Instr.loadAt, Instr.sureAddr, hrun]) hd (hn d hd) hrel hk
       ·cases hs
     ·cases hs
    ·cases hs
   ·rename_i id off hpv
    obtain ⟨_, _, g0, hv0, hg0⟩ := h.ev hx hpv
    split at hs
    ·rename_i cs fz hb
     obtain ⟨hb, hmp⟩ := cbox_some hb
     obtain ⟨g, hB, h1, ty, vs, hg, hrl, htg, hfz⟩ := h.box id cs fz hb
     replace hg := hg.cells hmp
     have hv := hv0
     rw [← hg0 g hB, npV_ptr hmp] at hv
     split at hs
     ·rename_i cs' hdr
      obtain ⟨hd1, hd2⟩ := dropN_spec hdr
      have hL := load_rel (P := P) (G := G) hu hinf (box_cells hg off) (cs := cs') (by rw [hd1, List.map_drop]; exact hrl.drop off) (fun j u c hu' hc' => by rw [hd1] at hc'; exact htg (off + j) u c (by simpa using hu') (by simpa using hc'))
      split at hs
      ·rename_i ha
       split at hs
       ·rename_i cs2 htk
        cases hs
        obtain ⟨v, hrun, hrel⟩ := hL.1 _ ha htk
        exact sim_value h (by simp [execOp, ho, hv, Instr.loadAt, Instr.sureAddr, hrun]) hd (hn d hd) hrel hk
       ·cases hs
      ·rename_i ha
       split at hs
       ·rename_i c hgt
        cases hs
        obtain ⟨v, hrun, hrel⟩ := hL.2 _ ha hgt
        exact sim_value h (by simp [execOp, ho, hv, Instr.loadAt, Instr.sureAddr, hrun]) hd (hn d hd) hrel hk
       ·cases hs
     ·cases hs
    ·cases hs
   ·cases hs
  ·cases hi
 ·cases hi
end
end Go.Proofs.YtgidajjjpeboeaaGreatDoor
/-
 The abstract walk: addresses, lengths, tuples, strings, function values, stores and new variables.
-/
namespace Go.Proofs.YtgidajjjpeboeaaGreatDoor
open Go.RowKit
section
variable {P : Program} {mu : List Nat} {E : Env} {G : Gho} {fr fr' : Fr} {st st' : St} {a : Act} {w : World} {o : Oper} {K : Act → World → Prop} {Q : Exit → Act → World → Prop} {p : Prop} {rs : Option RS} {i : AI} {gs : Bool}
theorem lst_open {v : Value} {t : Tag} {esz : Nat} {l : List (List AV)} (h : RelS G v (.lst t esz l)) : ∃ (A : Option Addr) (cap b o : Nat) (f : Nat → Nat → Value), v = .slice A l.length cap ∧ l.length ≤ cap ∧ (0 < l.length → A = some ⟨b, o, none⟩) ∧
  (∀ (i : Nat) (c : List AV), l[i]? = some c → c.length = esz) ∧ (∀ i j, i < l.length → j < esz → G.σ b (o + i * esz + j) = some (f i j)) ∧
  (∀ (i j : Nat) (c : List AV) (x : AV), l[i]? = some c → c[j]? = some x → Rel1 G.σ (f i j) x) ∧ TagOk G v (.lst t esz l) ∧ (t = .nil → A = none ∧ l.length = 0 ∧ cap = 0) ∧ (t = .full → cap = l.length) := by
 have key : ∀ t', Rel1 G.σ v (.lst t' esz l) → ∃ (A : Option Addr) (cap b o : Nat) (f : Nat → Nat → Value), v = .slice A l.length cap ∧ l.length ≤ cap ∧ (0 < l.length → A = some ⟨b, o, none⟩) ∧
   (∀ (i : Nat) (c : List AV), l[i]? = some c → c.length = esz) ∧ (∀ i j, i < l.length → j < esz → G.σ b (o + i * esz + j) = some (f i j)) ∧
   (∀ (i j : Nat) (c : List AV) (x : AV), l[i]? = some c → c[j]? = some x → Rel1 G.σ (f i j) x) ∧ (t' = .nil → A = none ∧ l.length = 0 ∧ cap = 0) ∧ (t' = .full → cap = l.length) := by
  intro t' h'
  cases h' with
  | lst t' esz l A n cap b o f hn hlen hA hsz hσ hr ht =>
   subst hn
   exact ⟨A, cap, b, o, f, rfl, hlen, hA, hsz, hσ, hr, fun e => by subst e; exact ht, fun e => by subst e; exact ht⟩
 have h1 : Rel1 G.σ v ((AV.lst t esz l).unown) := h.1
 have h2 : TagOk G v (.lst t esz l) := h.2
 cases t with
 | own s ver =>
  obtain ⟨A, cap, b, o, f, q1, q2, q3, q4, q5, q6, q7, q8⟩ := key .any h1
  exact ⟨A, cap, b, o, f, q1, q2, q3, q4, q5, q6, h2, (fun e => by cases e), (fun e => by cases e)⟩
 | nil => obtain ⟨A, cap, b, o, f, q1, q2, q3, q4, q5, q6, q7, q8⟩ := key _ h1; exact ⟨A, cap, b, o, f, q1, q2, q3, q4, q5, q6, h2, q7, q8⟩
 | full => obtain ⟨A, cap, b, o, f, q1, q2, q3, q4, q5, q6, q7, q8⟩ := key _ h1; exact ⟨A, cap, b, o, f, q1, q2, q3, q4, q5, q6, h2, q7, q8⟩
 | any => obtain ⟨A, cap, b, o, f, q1, q2, q3, q4, q5, q6, q7, q8⟩ := key _ h1; exact ⟨A, cap, b, o, f, q1, q2, q3, q4, q5, q6, h2, q7, q8⟩
theorem lst_nil {v : Value} {t : Tag} {esz : Nat} {l : List (List AV)} (h : RelS G v (.lst t esz l)) (ht : t = .nil) : l = [] := by
 obtain ⟨_, _, _, _, _, _, _, _, _, _, _, _, h8, _⟩ := lst_open h
 exact List.eq_nil_of_length_eq_zero (h8 ht).2.1
theorem sim_off (h : Conc E G fr st a w) {t : TypeId} {x : Operand} {j : Nat} (ho : o.op = .fieldAddr t x j) (hi : opAI P mu gs o = some i) (hs : astep P i rs fr st = some (fr', st', p)) (hn : ∀ d, o.dst = some d → d < E.n) (hk : Then E fr' st' K) : o.wp P a w K Q := by
 unfold opAI at hi
 rw [ho] at hi
 simp only at hi
 split at hi
 ·rename_i d x' fs hd hx hu
  split at hi
  ·rename_i f hf
   split at hi
   ·cases hi
   ·rename_i hsz
    cases hi
    have hsz' : (sizeOf f.type).run P w = .ok (P.cellsOf f.type) w := by
     unfold Program.cellsOf at hsz ⊢
     cases hq : P.info? f.type with
     | none => rw [hq] at hsz; simp at hsz
     | some i => simp [sizeOf, typeInfo, hq]
    have hrun : ∀ b q, (Instr.fieldAt t (.pointer (some ⟨b, q, none⟩)) j).run P w = .ok (.pointer (some ⟨b, q + f.offset, none⟩)) w := by
     intro b q
     simp only [Instr.fieldAt, Sem.run_bind, run_underlying hu, Result.andThen_ok, hf, Instr.sureAddr, Sem.run_pure, fieldPlace, hsz']
     rw [if_neg hsz]
     simp [Addr.add_lit]
    simp only [astep] at hs
    split at hs
    ·rename_i id off hpv
     cases hs
     obtain ⟨g, hB, hv, hsm⟩ := h.ev hx hpv
     exact sim_value h (v := .pointer (some ⟨g, off + f.offset, none⟩)) (by simp [execOp, ho, hv, hrun]) hd (hn d hd) (x := .ptr id (off + f.offset)) ⟨g, hB, rfl, hsm⟩ hk
    ·rename_i cs hpv
     obtain ⟨b, off, vs, hv, hrl, hσ⟩ := ro_open (h.ev hx hpv)
     split at hs
     ·rename_i cs' hdr
      cases hs
      obtain ⟨hd1, hd2⟩ := dropN_spec hdr
      refine sim_value h (v := .pointer (some ⟨b, off + f.offset, none⟩)) (by simp [execOp, ho, hv, hrun]) hd (hn d hd) (RelS.of1 (.ro cs' b (off + f.offset) (fun k => (vs.drop f.offset).getD k undef) (fun k hk' => ?_) fun k x hx' => ?_)) hk
      ·have : (vs.drop f.offset)[k]? = some ((vs.drop f.offset)[k]'(by rw [List.length_drop, hrl.1, ← List.length_drop, ← hd1]; exact hk')) := List.getElem?_eq_getElem _
       rw [List.getElem?_drop] at this
       rw [Nat.add_assoc, hσ _ _ this, List.getD, List.getElem?_drop, this]
       rfl
      ·rw [hd1] at hx'
       obtain ⟨v, hv1, hv2⟩ := (hrl.drop f.offset).at_ hx'
       rw [List.getD, hv1]
       exact hv2
     ·cases hs
    ·rename_i id esz ie k c hpv
     cases hs
     obtain ⟨hid, g, hv, hg⟩ := h.ev hx hpv
     exact sim_value h (v := .pointer (some ⟨g, ie * esz + k + f.offset, none⟩)) (by simp [execOp, ho, hv, hrun]) hd (hn d hd) (x := .pel id esz ie (k + f.offset) c) ⟨hid, g, by rw [Nat.add_assoc], hg⟩ hk
    ·rename_i id off hpv
     split at hs
     ·cases hs
     rename_i hmp
     cases hs
     obtain ⟨_, hid, g, hv, hg⟩ := h.ev hx hpv
     rw [npV_ptr hmp] at hv
     exact sim_value h (v := .pointer (some ⟨g, off + f.offset, none⟩)) (by simp [execOp, ho, hv, hrun]) hd (hn d hd) (x := .np id (off + f.offset)) ⟨.top _ rfl, hid, g, (npV_ptr hmp _ _).symm, hg⟩ hk
    ·cases hs
  ·cases hi
 ·cases hi
theorem sim_nilc (h : Conc E G fr st a w) {x : Operand} (ho : o.op = .nilCheck x) (hi : opAI P mu gs o = some i) (hs : astep P i rs fr st = some (fr', st', p)) (hn : ∀ d, o.dst = some d → d < E.n) (hk : Then E fr' st' K) : o.wp P a w K Q := by
 unfold opAI at hi
 rw [ho] at hi
 simp only at hi
 split at hi
 ·rename_i d x' hd hx
  cases hi
  have hrun : ∀ b q, a.eval x = .pointer (some ⟨b, q, none⟩) → (execOp a.eval o).run P w = .ok (.value (.pointer (some ⟨b, q, none⟩))) w := fun b q hv => by simp [execOp, ho, hv]
  simp only [astep] at hs
  split at hs
  ·rename_i id off hpv
   cases hs
   obtain ⟨g, hB, hv, hsm⟩ := h.ev hx hpv
   exact sim_value h (hrun _ _ hv) hd (hn d hd) (x := .ptr id (off + 0)) ⟨g, hB, rfl, hsm⟩ hk
  ·rename_i cs hpv
   obtain ⟨b, off, vs, hv, _, _⟩ := ro_open (h.ev hx hpv)
   cases hs
   exact sim_value h (hrun _ _ hv) hd (hn d hd) (x := .ro cs) (hv ▸ h.ev hx hpv) hk
  ·rename_i id esz ie k c hpv
   cases hs
   obtain ⟨hid, g, hv, hg⟩ := h.ev hx hpv
   exact sim_value h (hrun _ _ hv) hd (hn d hd) (x := .pel id esz ie (k + 0) c) ⟨hid, g, rfl, hg⟩ hk
  ·rename_i id off hpv
   split at hs
   ·cases hs
   rename_i hmp
   cases hs
   obtain ⟨_, hid, g, hv, hg⟩ := h.ev hx hpv
   rw [npV_ptr hmp] at hv
   exact sim_value h (hrun _ _ hv) hd (hn d hd) (x := .np id (off + 0)) ⟨.top _ rfl, hid, g, (npV_ptr hmp _ _).symm, hg⟩ hk
  ·cases hs
 ·cases hi
theorem sim_idx (h : Conc E G fr st a w) {t : TypeId} {x y : Operand} (ho : o.op = .indexAddr t x y) (hi : opAI P mu gs o = some i) (hs : astep P i rs fr st = some (fr', st', p)) (hp : p) (hn : ∀ d, o.dst = some d → d < E.n) (hk : Then E fr' st' K) : o.wp P a w K Q := by
 unfold opAI at hi
 rw [ho] at hi
 simp only at hi
 split at hi
 ·rename_i d x' y' e hd hx hy hu
  split at hi
  ·rename_i inf hinf
   split at hi
   ·rename_i hpos
    cases hi
    simp only [astep] at hs
    split at hs
    ·rename_i id esz' n0 cap k n cs hxv hyv
     cases hs
     obtain ⟨he, hn0, hlt⟩ := hp
     subst he
     obtain ⟨_, hid, _, g, hv, hg⟩ := h.ev hx hxv
     have hiv := (h.ev hy hyv).int
     have hb : 0 ≤ n ∧ n < (n0 : Int) := ⟨hn0, hlt⟩
     have hsz : (sizeOf e).run P w = .ok inf.size w := by simp [sizeOf, typeInfo, hinf]
     have hue : P.underlying t = some (.slice (P.elem t)) := by unfold Program.elem; rw [hu]
     have hee : P.elem t = e := by unfold Program.elem; rw [hu]
     have hrun : (Instr.indexAt t (.slice (some ⟨g, 0, none⟩) n0 cap) (.int k n)).run P w = .ok (.pointer (some ⟨g, n.toNat * inf.size + 0, none⟩)) w := by
      rw [run_indexAt_slice w t _ _ _ k n hue, if_pos hb, hee, hsz]
      simp [Addr.add_lit]
     exact sim_value h (v := .pointer (some ⟨g, n.toNat * inf.size + 0, none⟩)) (by simp only [execOp, ho, hv, hiv, Sem.run_bind, hrun, Result.andThen_ok, Sem.run_pure]) hd (hn d hd) (x := .pel id inf.size n.toNat 0 cs) ⟨hid, g, rfl, hg⟩ hk
    ·rename_i t' esz' l k n cs hxv hyv
     cases hs
     obtain ⟨he, hn0, hl⟩ := hp
     subst he
     obtain ⟨A, cap, b, q, f, hv, q2, q3, q4, q5, q6, _⟩ := lst_open (h.ev hx hxv)
     have hiv := (h.ev hy hyv).int
     obtain ⟨hlt, hle⟩ := List.getElem?_eq_some_iff.1 hl
     have hA := q3 (by omega)
     subst hA
     have hb : 0 ≤ n ∧ n < (l.length : Int) := ⟨hn0, by omega⟩
     have hsz : (sizeOf e).run P w = .ok inf.size w := by simp [sizeOf, typeInfo, hinf]
     have hue : P.underlying t = some (.slice (P.elem t)) := by unfold Program.elem; rw [hu]
     have hee : P.elem t = e := by unfold Program.elem; rw [hu]
     have hrun : (Instr.indexAt t (.slice (some ⟨b, q, none⟩) l.length cap) (.int k n)).run P w = .ok (.pointer (some ⟨b, q + n.toNat * inf.size, none⟩)) w := by
      rw [run_indexAt_slice w t _ _ _ k n hue, if_pos hb, hee, hsz]
      simp [Addr.add_lit]
     have hcl := q4 _ _ hl
     refine sim_value h (v := .pointer (some ⟨b, q + n.toNat * inf.size, none⟩)) (by simp [execOp, ho, hv, hiv, hrun]) hd (hn d hd) (RelS.of1 (.ro cs b _ (fun j => f n.toNat j) (fun j hj => ?_) fun j x hx' => q6 _ _ _ _ hl hx')) hk
     exact q5 _ _ hlt (by omega)
    ·cases hs
   ·cases hi
  ·cases hi
 ·rename_i d x' y' n e hd hx hy hu
  split at hi
  ·rename_i inf hinf
   split at hi
   ·cases hi
    simp only [astep] at hs
    split at hs
    ·rename_i id off k m hxv hyv
     cases hs
     obtain ⟨h0, hlt⟩ := hp
     obtain ⟨g, hB, hv, hsm⟩ := h.ev hx hxv
     have hiv := (h.ev hy hyv).int
     have hsz : (sizeOf e).run P w = .ok inf.size w := by simp [sizeOf, typeInfo, hinf]
     have hal : P.arrayLen t = n := by unfold Program.arrayLen; rw [hu]
     have hee : P.elem t = e := by unfold Program.elem; rw [hu]
     have hue : P.underlying t = some (.array (P.arrayLen t) (P.elem t)) := by rw [hal, hee]; exact hu
     have hrun : (Instr.indexAt t (.pointer (some ⟨g, off, none⟩)) (.int k m)).run P w = .ok (.pointer (some ⟨g, off + m.toNat * inf.size, none⟩)) w := by
      rw [run_indexAt_array w t _ k m hue, if_pos (by rw [hal]; exact ⟨h0, hlt⟩), hee, hsz]
      simp [Addr.add_lit]
     exact sim_value h (v := .pointer (some ⟨g, off + m.toNat * inf.size, none⟩)) (by simp [execOp, ho, hv, hiv, hrun]) hd (hn d hd) (x := .ptr id (off + m.toNat * inf.size)) ⟨g, hB, rfl, hsm⟩ hk
    ·rename_i id off k m hxv hyv
     split at hs
     ·cases hs
     rename_i hmp
     cases hs
     obtain ⟨h0, hlt⟩ := hp
     obtain ⟨_, hid, g, hv, hg⟩ := h.ev hx hxv
     rw [npV_ptr hmp] at hv
     have hiv := (h.ev hy hyv).int
     have hsz : (sizeOf e).run P w = .ok inf.size w := by simp [sizeOf, typeInfo, hinf]
     have hal : P.arrayLen t = n := by unfold Program.arrayLen; rw [hu]
     have hee : P.elem t = e := by unfold Program.elem; rw [hu]
     have hue : P.underlying t = some (.array (P.arrayLen t) (P.elem t)) := by rw [hal, hee]; exact hu
     have hrun : (Instr.indexAt t (.pointer (some ⟨g, off, none⟩)) (.int k m)).run P w = .ok (.pointer (some ⟨g, off + m.toNat * inf.size, none⟩)) w := by
      rw [run_indexAt_array w t _ k m hue, if_pos (by rw [hal]; exact ⟨h0, hlt⟩), hee, hsz]
      simp [Addr.add_lit]
     exact sim_value h (v := .pointer (some ⟨g, off + m.toNat * inf.size, none⟩)) (by simp [execOp, ho, hv, hiv, hrun]) hd (hn d hd) (x := .np id (off + m.toNat * inf.size)) ⟨.top _ rfl, hid, g, (npV_ptr hmp _ _).symm, hg⟩ hk
    ·cases hs
   ·cases hi
  ·cases hi
 ·cases hi
theorem sim_bidx (h : Conc E G fr st a w) {t : TypeId} {x y : Operand} (ho : o.op = .index t x y) (hi : opAI P mu gs o = some i) (hs : astep P i rs fr st = some (fr', st', p)) (hp : p) (hn : ∀ d, o.dst = some d → d < E.n) (hk : Then E fr' st' K) : o.wp P a w K Q := by
 unfold opAI at hi
 rw [ho] at hi
 simp only at hi
 split at hi
 ·rename_i d x' y' hd hx hy hu
  cases hi
  simp only [astep] at hs
  split at hs
  ·rename_i s k n hxv hyv
   cases hs
   obtain ⟨h0, h1⟩ := hp
   have hv := (h.ev hx hxv).str
   have hiv := (h.ev hy hyv).int
   have hlt : n.toNat < s.size := by omega
   have hrun : (Instr.index t (.string s) (.int k n)).run P w = .ok (.int .u8 (s.data.getD n.toNat 0).toNat) w := by
    have e : s[n.toNat]? = some (s.data.getD n.toNat 0) := by
     rw [getElem?_pos s n.toNat hlt]
     congr 1
     show s.data[n.toNat]'hlt = _
     rw [Array.getD, dif_pos (show n.toNat < s.data.size from hlt)]
     rfl
    simp [Instr.index, asIntOf, run_underlying hu, h0, e]
   exact sim_value h (v := .int .u8 (s.data.getD n.toNat 0).toNat) (by simp only [execOp, ho, hv, hiv, Sem.run_bind, hrun, Result.andThen_ok, Sem.run_pure]) hd (hn d hd) (x := .int .u8 (s.data.getD n.toNat 0).toNat) ⟨.int _ _, trivial⟩ hk
  ·cases hs
 ·cases hi
theorem sim_len0 (h : Conc E G fr st a w) {c : Call} (ho : o.op = .call c) (hc : c.callee = .builtin .len) (hi : opAI P mu gs o = some i) (hs : astep P i rs fr st = some (fr', st', p)) (hn : ∀ d, o.dst = some d → d < E.n) (hno : ∀ mo d ys, i ≠ .mop mo d ys) (hk : Then E fr' st' K) : o.wp P a w K Q := by
 unfold opAI at hi
 rw [ho] at hi
 simp only [hc] at hi
 split at hi
 ·rename_i d x t hd hargs' htys'
  have hargs : c.args = #[x] := Array.toList_inj.1 hargs'
  have htys : c.argTypes = #[t] := Array.toList_inj.1 htys'
  have hrun : ∀ v, (Builtin.len_ #[t] o.type #[a.eval x]).run P w = .ok v w → (execOp a.eval o).run P w = .ok (.value v) w := by
   intro v hv
   simp [execOp, ho, resolve, hc, hargs, htys, invoke, builtin, hv]
  split at hi
  ·rename_i x' hx hu
   cases hi
   simp only [astep] at hs
   split at hs
   ·rename_i heq _; cases heq
   ·rename_i heq _; cases heq
   ·rename_i heq _; cases heq
   ·rename_i s heq hxv
    cases hs
    have hv := (h.ev hx hxv).str
    exact sim_value h (hrun (.int .i64 s.size) (by simp [Builtin.len_, run_underlying hu, hv, goInt])) hd (hn d hd) (x := .int .i64 s.size) ⟨.int _ _, trivial⟩ hk
   ·cases hs
  ·rename_i x' e hx hu
   cases hi
   simp only [astep] at hs
   split at hs
   ·rename_i t' esz l heq hxv
    cases hs
    obtain ⟨A, cap, b, q, f, hv, _⟩ := lst_open (h.ev hx hxv)
    exact sim_value h (hrun (.int .i64 l.length) (by simp [Builtin.len_, run_underlying hu, hv, goInt])) hd (hn d hd) (x := .int .i64 l.length) ⟨.int _ _, trivial⟩ hk
   ·rename_i id esz n cap heq hxv
    cases hs
    obtain ⟨_, hid, _, g, hv, hg⟩ := h.ev hx hxv
    exact sim_value h (hrun (.int .i64 n) (by simp [Builtin.len_, run_underlying hu, hv, goInt])) hd (hn d hd) (x := .int .i64 n) ⟨.int _ _, trivial⟩ hk
   ·rename_i key esz rows heq hxv
    cases hs
    obtain ⟨_, g, cap, hφ, hv⟩ := h.ev hx hxv
    exact sim_value h (hrun (.int .i64 rows.length) (by simp [Builtin.len_, run_underlying hu, hv, goInt])) hd (hn d hd) (x := .int .i64 rows.length) ⟨.int _ _, trivial⟩ hk
   ·rename_i heq _; cases heq
   ·cases hs
  ·cases hi; exact absurd rfl (hno _ _ _)
  ·cases hi
 ·cases hi
theorem sim_ext (h : Conc E G fr st a w) {x : Operand} {j : Nat} (ho : o.op = .extract x j) (hi : opAI P mu gs o = some i) (hs : astep P i rs fr st = some (fr', st', p)) (hn : ∀ d, o.dst = some d → d < E.n) (hk : Then E fr' st' K) : o.wp P a w K Q := by
 unfold opAI at hi
 rw [ho] at hi
 simp only at hi
 split at hi
 ·rename_i d x' hd hx
  cases hi
  simp only [astep] at hs
  split at hs
  ·rename_i l hxv
   split at hs
   ·rename_i c hc
    cases hs
    obtain ⟨vs, hv, hl, hr⟩ := h.ev hx hxv
    have h0 := getN_spec hc
    have hjl : j < vs.length := by rw [hl]; exact (List.getElem?_eq_some_iff.1 h0).1
    have h1 : vs[j]? = some vs[j] := List.getElem?_eq_getElem hjl
    have h2 := hr j _ _ h1 h0
    have h3 : RelS G vs[j] c := by
     cases c <;> first
      | exact RelS.of1 h2
      | exact h2
      | (obtain ⟨us, he, h4⟩ := h2; exact ⟨us, he, by rw [h4.map_unown]; exact h4, h4.tags⟩)
    exact sim_value h (v := vs[j]) (by simp [execOp, ho, hv, Instr.extract, hjl]) hd (hn d hd) h3 hk
   ·cases hs
  ·cases hs
 ·cases hi
theorem sim_mx (h : Conc E G fr st a w) {c : Call} (ho : o.op = .call c) (hc : c.callee = .builtin .max) (hi : opAI P mu gs o = some i) (hs : astep P i rs fr st = some (fr', st', p)) (hn : ∀ d, o.dst = some d → d < E.n) (hk : Then E fr' st' K) : o.wp P a w K Q := by
 unfold opAI at hi
 rw [ho] at hi
 simp only [hc] at hi
 split at hi
 ·rename_i d x y hd hargs'
  have hargs : c.args = #[x, y] := Array.toList_inj.1 hargs'
  split at hi
  ·rename_i x' y' hx hy
   cases hi
   simp only [astep] at hs
   split at hs
   ·rename_i k n k2 m hxv hyv
    cases hs
    have hv := (h.ev hx hxv).int
    have hw := (h.ev hy hyv).int
    have he : (if m > n then m else n) = (match decide (m > n) with | true => m | false => n) := by
     by_cases hmn : m > n
     ·rw [if_pos hmn, decide_eq_true hmn]
     ·rw [if_neg hmn, decide_eq_false hmn]
    refine sim_value h (v := .int k (match decide (m > n) with | true => m | false => n)) ?_ hd (hn d hd) (x := .int k (match decide (m > n) with | true => m | false => n)) ⟨.int _ _, trivial⟩ hk
    rw [← he]
    simp [execOp, ho, resolve, hc, hargs, invoke, builtin, hv, hw, Builtin.max_, Builtin.max2]
   ·cases hs
  ·cases hi
 ·cases hi
theorem sim_conv (h : Conc E G fr st a w) {s t : TypeId} {x : Operand} (ho : o.op = .convert s t x) (hi : opAI P mu gs o = some i) (hs : astep P i rs fr st = some (fr', st', p)) (hp : p) (hn : ∀ d, o.dst = some d → d < E.n) (hk : Then E fr' st' K) : o.wp P a w K Q := by
 unfold opAI at hi
 rw [ho] at hi
 simp only at hi
 split at hi
 ·rename_i d x' k0 k hd hx hus hut
  cases hi
  simp only [astep] at hs
  split at hs
  ·rename_i k1 n hxv
   cases hs
   have hv := (h.ev hx hxv).int
   exact sim_value h (v := .int k (k.wrap n)) (by simp [execOp, ho, hv, convert, run_underlying hus, run_underlying hut, Conv.intToInt]) hd (hn d hd) (x := .int k (k.wrap n)) ⟨.int _ _, trivial⟩ hk
  ·cases hs
 ·rename_i d x' e hd hx hus hut
  split at hi
  ·rename_i hue
   cases hi
   simp only [astep] at hs
   split at hs
   ·rename_i tg esz l hxv
    split at hs
    ·rename_i bs q hbs
     cases hs
     obtain ⟨he, hpos, hq⟩ := hp
     subst he
     obtain ⟨A, cap, b, o2, f, hv, q2, q3, q4, q5, q6, _⟩ := lst_open (h.ev hx hxv)
     obtain ⟨hl, hat⟩ := bytesOfRows_spec hbs hq
     have hA := q3 hpos
     subst hA
     have hrun : (convert s t (.slice (some ⟨b, o2, none⟩) l.length cap)).run P w = .ok (.string ⟨bs.toArray⟩) w := by
      rw [← hl]
      refine run_convert_bytes_back w s t e ⟨b, o2, none⟩ cap bs hus hue hut fun j hj => ?_
      have h1 := q6 j 0 _ _ (hat j hj) rfl
      have h2 := h.hold _ _ _ (q5 j 0 (by omega) (by omega))
      rw [Nat.mul_one, Nat.add_zero] at h2
      rw [Addr.add_lit, h2]
      generalize f j 0 = u at h1
      cases h1
      rfl
     exact sim_value h (v := .string ⟨bs.toArray⟩) (by simp [execOp, ho, hv, hrun]) hd (hn d hd) (x := .str ⟨bs.toArray⟩) ⟨.str _, trivial⟩ hk
    ·cases hs
   ·cases hs
  ·cases hi
 ·cases hi
end
end Go.Proofs.YtgidajjjpeboeaaGreatDoor
/-
 The abstract walk: new variables, stores, calls.
-/
namespace Go.Proofs.YtgidajjjpeboeaaGreatDoor
open Go.RowKit
section
variable {P : Program} {mu : List Nat} {E : Env} {G : Gho} {fr fr' : Fr} {st st' : St} {a : Act} {w : World} {o : Oper} {K : Act → World → Prop} {Q : Exit → Act → World → Prop} {p : Prop} {rs : Option RS} {i : AI} {gs : Bool}
theorem Conc.fresh (h : Conc E G fr st a w) (j : Nat) : G.σ w.heap.size j = none := by
 cases hs : G.σ w.heap.size j with
 | none => rfl
 | some v =>
  have := World.block_lt_of_cell? w _ (h.hold _ _ _ hs)
  simp at this
theorem Conc.Blt (h : Conc E G fr st a w) : ∀ id g, G.B id = some g → g < w.heap.size := fun id g hg => by
 cases hbx : st.box id with
 | none => rw [h.bnone id hbx] at hg; cases hg
 | some x =>
  obtain ⟨cs', fz⟩ := x
  obtain ⟨g', hg', _, t', vs', hh, _⟩ := h.box id cs' fz hbx
  rw [hg] at hg'
  cases hg'
  exact hh.lt
theorem Conc.notMap (h : Conc E G fr st a w) {id g : Nat} {cs : List AV} {fz : Bool} {t : TypeId} {vs : Array Value} {z : Nat × Nat} (hb : st.box id = some (cs, fz)) (hB : G.B id = some g) (hg : w.heap[g]? = some (.cells vs t z)) : isMp id = false := by
 obtain ⟨g', hB', _, _, _, ⟨o, h1, h2⟩, _⟩ := h.box id cs fz hb
 rw [hB] at hB'
 cases hB'
 rw [hg] at h1
 cases h1
 unfold ObjAt at h2
 split at h2
 ·assumption
 ·obtain ⟨_, _, e, _⟩ := h2
  cases e
theorem Conc.ρlt (h : Conc E G fr st a w) : ∀ s r, G.ρ s (st.row s) = some r → r.g < w.heap.size := fun s r hs => by
 obtain ⟨⟨_, e2, cur2, k3, _⟩, _⟩ := h.row s r hs
 exact lt_of_heap k3
theorem Conc.newbox (h : Conc E G fr st a w) {d : Nat} (hd : d < E.n) (hb : st.box d = none) {cs : List AV} {vs : Array Value} (t : TypeId) (hr : RelL G.σ vs.toList (cs.map AV.unown)) (ht : TagsOk G vs.toList cs) :
  Conc E { G with B := upd G.B d (some w.heap.size) } (put1 fr d (.ptr d 0)) { st with box := upd st.box d (some (cs, false)) } (a.put (some d) (.pointer (some ⟨w.heap.size, 0, none⟩))) (w.alloc (.cells vs t)) := by
 have hBd := h.bnone d hb
 have hle : G.le { G with B := upd G.B d (some w.heap.size) } := ⟨Sg.le.refl _, fun _ _ _ h => h, fun _ _ h => h, fun id g hid hg => by
  have h2 := h.small
  simp only at hg
  rw [upd_at, if_neg (by omega)] at hg
  exact hg⟩
 have hBn : ∀ id g, G.B id = some g → (upd G.B d (some w.heap.size)) id = some g := fun id g hg => by
  rw [upd_at, if_neg (fun e => by rw [e, hBd] at hg; cases hg)]; exact hg
 have hbelow : Below w.heap.size w (w.alloc (.cells vs t)) := (Below.refl _ _).alloc (Nat.le_refl _) _
 have hBlt : ∀ id g, G.B id = some g → g < w.heap.size := fun id g hg => by
  cases hbx : st.box id with
  | none => rw [h.bnone id hbx] at hg; cases hg
  | some x =>
   obtain ⟨cs', fz⟩ := x
   obtain ⟨g', hg', _, t', vs', hh, _⟩ := h.box id cs' fz hbx
   rw [hg] at hg'
   cases hg'
   exact hh.lt
 exact
 { defers := by rw [defers_put]; exact h.defers
   size := by rw [size_put]; exact h.size
   slots := fun s y hs => by
    rw [getD_put a _ s (by rw [h.size]; exact hd)]
    unfold put1 at hs
    rw [upd_at] at hs
    by_cases hsd : s = d
    ·rw [if_pos hsd] at hs ⊢
     cases hs
     exact ⟨w.heap.size, upd_same _ _ _, rfl, Nat.lt_of_lt_of_le hd h.small⟩
    ·rw [if_neg hsd] at hs ⊢
     exact (h.slots s y hs).mono hle fun id off g _ hg => hBn id g hg
   hold := fun b o v hv => by
    have h1 := h.hold b o v hv
    rw [World.cell?_alloc_lt w _ _ (World.block_lt_of_cell? w _ h1)]
    exact h1
   ext := h.ext
   below := h.below.trans (BelowK.of hbelow fun _ => False) (fun _ h => False.elim h)
   box := fun id cs' fz hs => by
    simp only at hs
    rw [upd_at] at hs
    by_cases hid : id = d
    ·rw [if_pos hid] at hs
     cases hs
     subst hid
     exact ⟨w.heap.size, upd_same _ _ _, .inl h.lt, t, vs, .mk (isMp_lt (Nat.lt_of_lt_of_le hd h.small)) (heap_alloc_new w _), hr, ht.mono hle, fun j => h.fresh j⟩
    ·rw [if_neg hid] at hs
     obtain ⟨g, h1, h2, t', vs', h3, h4, h5, h6⟩ := h.box id cs' fz hs
     exact ⟨g, hBn id g h1, h2, t', vs', h3.of (hbelow.block g h3.lt), h4, h5.mono hle, h6⟩
   bnone := fun id hs => by
    simp only at hs ⊢
    rw [upd_at] at hs ⊢
    by_cases hid : id = d
    ·rw [if_pos hid] at hs; cases hs
    ·rw [if_neg hid] at hs ⊢; exact h.bnone id hs
   binj := fun id id' g h1 h2 => by
    simp only at h1 h2
    rw [upd_at] at h1 h2
    by_cases hid : id = d
    ·rw [if_pos hid] at h1
     by_cases hid' : id' = d
     ·rw [hid, hid']
     ·rw [if_neg hid'] at h2
      cases h1
      have := hBlt _ _ h2
      omega
    ·rw [if_neg hid] at h1
     by_cases hid' : id' = d
     ·rw [if_pos hid'] at h2
      cases h2
      have := hBlt _ _ h1
      omega
     ·rw [if_neg hid'] at h2; exact h.binj id id' g h1 h2
   row := fun s r hs => by
    obtain ⟨⟨h1, e, cur, h3, h4⟩, h9⟩ := h.row s r hs
    refine ⟨⟨h1, e, cur, by rw [hbelow.block r.g (lt_of_heap h3)]; exact h3, h4⟩, fun id => ?_⟩
    simp only
    rw [upd_at]
    split
    ·intro e
     injection e with e
     have := lt_of_heap h3
     omega
    ·exact h9 id
   rinj := h.rinj
   rlt := h.rlt
   phi := fun k x hk => by
    obtain ⟨⟨h1, h2⟩, h3, h4⟩ := h.phi k x hk
    refine ⟨⟨h1, h2.on (Sg.le.refl _) (hbelow.block _ h2.lt) h2.free⟩, fun id => ?_, h4⟩
    simp only
    rw [upd_at]
    split
    ·intro e
     injection e with e
     have := h2.lt
     omega
    ·exact h3 id
   phinj := h.phinj
   pnone := fun k hk => h.pnone k (by
    unfold put1 at hk
    rw [upd_at] at hk
    split at hk
    ·cases hk
    ·exact hk)
   small := h.small
   keep := fun id g h2 hg => h.keep id g h2 (by
    have h3 := h.small
    simp only at hg
    rw [upd_at, if_neg (by omega)] at hg
    exact hg) }
theorem zeroCells_rel : ∀ {vs : List Value} {ts : List TypeId} {cs : List AV}, zeroCellsAV P ts vs = some cs → RelL G.σ vs (cs.map AV.unown) ∧ TagsOk G vs cs
 | [], ts, cs, h => by cases h; exact ⟨.nil, fun j v a hv => by simp at hv⟩
 | v :: vs, ts, cs, h => by
  unfold zeroCellsAV at h
  split at h
  ·rename_i c cs' h1 h2
   cases h
   obtain ⟨h3, h4⟩ := zeroCells_rel h2
   have h5 := const_rel h1 G
   have key : Rel1 G.σ v c.unown ∧ TagOk G v c := by
    unfold constAV at h1
    split at h1 <;> first
     | (cases h1; exact h5)
     | (split at h1 <;> cases h1 <;> exact h5)
     | cases h1
   refine ⟨.cons key.1 h3, fun j u x hu hx => ?_⟩
   cases j with
   | zero => simp at hu hx; subst hu hx; exact key.2
   | succ j => exact h4 j u x (by simpa using hu) (by simpa using hx)
  ·cases h
theorem sim_box (h : Conc E G fr st a w) {t : TypeId} {x : Operand} (ho : o.op = .box t x) (hi : opAI P mu gs o = some i) (hs : astep P i rs fr st = some (fr', st', p)) (hn : ∀ d, o.dst = some d → d < E.n) (hk : Then E fr' st' K) : o.wp P a w K Q := by
 unfold opAI at hi
 rw [ho] at hi
 simp only at hi
 split at hi
 ·rename_i d x' hd hx
  cases hi
  simp only [astep] at hs
  split at hs
  ·rename_i c hxv hb
   split at hs
   ·rename_i cs hc
    cases hs
    obtain ⟨h1, h2⟩ := (h.ev hx hxv).cells hc
    have hrun : (execOp a.eval o).run P w = .ok (.value (.pointer (some ⟨w.heap.size, 0, none⟩))) (w.alloc (.cells (a.eval x).cells t)) := by
     simp [execOp, ho, Instr.box, newVar, newRow]
    unfold Oper.wp
    rw [hrun, Oper.upon_value, hd]
    exact hk _ _ _ (h.newbox (hn d hd) hb t h1 h2)
   ·cases hs
  ·cases hs
 ·cases hi
theorem sim_alloc (h : Conc E G fr st a w) {t : TypeId} (ho : o.op = .alloc t) (hi : opAI P mu gs o = some i) (hs : astep P i rs fr st = some (fr', st', p)) (hn : ∀ d, o.dst = some d → d < E.n) (hk : Then E fr' st' K) : o.wp P a w K Q := by
 unfold opAI at hi
 rw [ho] at hi
 simp only at hi
 split at hi
 ·rename_i d z hd hz
  cases hi
  simp only [astep] at hs
  split at hs
  ·rename_i hb
   cases hs
   unfold zeroAV at hz
   split at hz
   ·rename_i inf hinf
    split at hz
    ·rename_i v hv
     obtain ⟨h1, h2⟩ := zeroCells_rel (G := G) hz
     have hrun : (execOp a.eval o).run P w = .ok (.value (.pointer (some ⟨w.heap.size, 0, none⟩))) (w.alloc (.cells v.cells t)) := by
      simp [execOp, ho, Instr.alloc, zeroValue, typeInfo, hinf, hv, newVar, newRow]
     unfold Oper.wp
     rw [hrun, Oper.upon_value, hd]
     exact hk _ _ _ (h.newbox (hn d hd) hb t h1 h2)
    ·cases hz
   ·cases hz
  ·cases hs
 ·cases hi
theorem splice_spec : ∀ {n : Nat} {xs l r : List AV}, splice n xs l = some r → r = l.take n ++ xs ++ l.drop (n + xs.length) ∧ (xs ≠ [] → n + xs.length ≤ l.length) ∧ r.length = l.length
 | n, [], l, r, h => by
  cases n <;> (unfold splice at h; cases h; simp)
 | 0, x :: xs, a :: l, r, h => by
  unfold splice at h
  split at h
  ·rename_i r' hr
   cases h
   obtain ⟨h1, h2, h3⟩ := splice_spec hr
   refine ⟨?_, fun _ => ?_, by simp [h3]⟩
   ·rw [h1]; simp
   ·cases xs with
    | nil => simp
    | cons y ys => have := h2 (by simp); simp at this ⊢; omega
  ·cases h
 | n + 1, x :: xs, a :: l, r, h => by
  unfold splice at h
  split at h
  ·rename_i r' hr
   cases h
   obtain ⟨h1, h2, h3⟩ := splice_spec hr
   refine ⟨?_, fun _ => ?_, by simp [h3]⟩
   ·rw [h1, show n + 1 + (x :: xs).length = (n + (x :: xs).length) + 1 by omega]; simp
   ·have := h2 (by simp); simp at this ⊢; omega
  ·cases h
 | 0, _ :: _, [], r, h => by cases h
 | n + 1, _ :: _, [], r, h => by cases h
theorem RelL.splice {σ : Sg} {G : Gho} {vs us : List Value} {cs xs r : List AV} {n : Nat} (h : RelL σ vs (cs.map AV.unown)) (ht : TagsOk G vs cs) (hx : RelL σ us (xs.map AV.unown)) (htx : TagsOk G us xs) (hs : Proofs.YtgidajjjpeboeaaGreatDoor.splice n xs cs = some r) (hle : n + us.length ≤ vs.length) :
  RelL σ (vs.take n ++ us ++ vs.drop (n + us.length)) (r.map AV.unown) ∧ TagsOk G (vs.take n ++ us ++ vs.drop (n + us.length)) r := by
 obtain ⟨h1, h2, h3⟩ := splice_spec hs
 have hul : us.length = xs.length := by simpa using hx.1
 have hvl : vs.length = cs.length := by simpa using h.1
 constructor
 ·rw [h1]
  simp only [List.map_append, List.map_take, List.map_drop]
  rw [← hul]
  exact ((h.take n).append hx).append (h.drop _)
 ·intro j v c hv hc
  rw [h1, ← hul] at hc
  by_cases hj : j < n
  ·rw [List.append_assoc, List.getElem?_append_left (by rw [List.length_take]; omega), List.getElem?_take, if_pos hj] at hv hc
   exact ht j v c hv hc
  ·rw [List.append_assoc, List.getElem?_append_right (by rw [List.length_take]; omega), List.length_take] at hv hc
   have e1 : min n vs.length = n := by omega
   have e2 : min n cs.length = n := by omega
   rw [e1] at hv
   rw [e2] at hc
   by_cases hj2 : j - n < us.length
   ·rw [List.getElem?_append_left hj2] at hv
    rw [List.getElem?_append_left (by omega)] at hc
    exact htx _ v c hv hc
   ·rw [List.getElem?_append_right (by omega), List.getElem?_drop] at hv
    rw [List.getElem?_append_right (by omega), List.getElem?_drop] at hc
    exact ht _ v c hv (by rw [← hc, hul])
theorem Conc.write (h : Conc E G fr st a w) {id g : Nat} {old new : List AV} {ty : TypeId} {vs : Array Value} (hb : st.box id = some (old, false)) (hB : G.B id = some g) (hge : E.own g) (hg : w.heap[g]? = some (.cells vs ty (0, 0))) (hfz : ∀ j, G.σ g j = none)
  {nv : List Value} (hr : RelL G.σ nv (new.map AV.unown)) (ht : TagsOk G nv new) : Conc E G fr { st with box := upd st.box id (some (new, false)) } a (w.setRow g nv.toArray) := by
 have hother : ∀ k, k ≠ g → (w.setRow g nv.toArray).heap[k]? = w.heap[k]? := fun k hk' => setRow_other w g k _ hk'
 refine {
  defers := h.defers
  size := h.size
  slots := h.slots
  hold := fun b q v hv => ?_
  ext := h.ext
  below := below_row h.below hge
  box := fun id' cs' fz' hs' => ?_
  bnone := fun id' hs' => ?_
  binj := h.binj
  row := fun s r hs' => ?_
  rinj := h.rinj
  rlt := h.rlt
  phi := fun k x hk => ?_
  phinj := h.phinj
  pnone := h.pnone
  small := h.small
  keep := h.keep }
 ·have hbg : b ≠ g := fun e => by
   subst e
   have := hfz q
   rw [hv] at this
   cases this
  rw [cell_setRow_other w g _ ⟨b, q, none⟩ hbg]
  exact h.hold b q v hv
 ·simp only at hs'
  rw [upd_at] at hs'
  split at hs'
  ·rename_i e
   cases hs'
   subst e
   exact ⟨g, hB, hge, ty, nv.toArray, .mk (h.notMap hb hB hg) (setRow_heap w g vs _ ty _ hg), by simpa using hr, by simpa using ht, fun j => hfz j⟩
  ·rename_i e
   obtain ⟨g2, k1, k2, t2, vs2, k3, k4⟩ := h.box id' cs' fz' hs'
   have : g2 ≠ g := fun e' => e (h.binj id' id g (e' ▸ k1) hB)
   exact ⟨g2, k1, k2, t2, vs2, k3.of (hother g2 this), k4⟩
 ·simp only at hs'
  rw [upd_at] at hs'
  split at hs'
  ·cases hs'
  ·exact h.bnone id' hs'
 ·obtain ⟨⟨k1, e, cur, k3, k4⟩, k9⟩ := h.row s r hs'
  have : r.g ≠ g := fun e' => k9 id (e' ▸ hB)
  exact ⟨⟨k1, e, cur, by rw [hother r.g this]; exact k3, k4⟩, k9⟩
 ·obtain ⟨⟨h1, h2⟩, h3, h4⟩ := h.phi k x hk
  have : x.g ≠ g := fun e' => h3 id (e' ▸ hB)
  exact ⟨⟨h1, h2.on (Sg.le.refl _) (hother _ this) h2.free⟩, h3, h4⟩
theorem Conc.rebox (h : Conc E G fr st a w) {id : Nat} {x : List AV × Bool} (hb : st.box id = some x) : Conc E G fr { st with box := upd st.box id (some x) } a w := by
 have : upd st.box id (some x) = st.box := by
  funext k
  rw [upd_at]
  split
  ·rename_i e; rw [e, hb]
  ·rfl
 rw [this]
 exact h
theorem mid_eq {α : Type} (l : List α) (a n : Nat) : l.take a ++ (l.drop a).take n ++ l.drop (a + n) = l := by
 have h2 : l.drop (a + n) = (l.drop a).drop n := by rw [List.drop_drop]
 rw [List.append_assoc, h2, List.take_append_drop, List.take_append_drop]
theorem sim_st (h : Conc E G fr st a w) {t : TypeId} {x y : Operand} (ho : o.op = .store t x y) (hi : opAI P mu gs o = some i) (hs : astep P i rs fr st = some (fr', st', p)) (hp : p) (hk : Then E fr' st' K) : o.wp P a w K Q := by
 unfold opAI at hi
 rw [ho] at hi
 simp only at hi
 split at hi
 ·rename_i x' y' inf hd hx hy hinf
  cases hi
  -- what is common: the store, where its place is known
  have go : ∀ {g off : Nat} {ty : TypeId} {vs : Array Value} {xs : List AV} {u : AV}, y'.ev fr = some u → u.vcells = some xs → xs.length = inf.size → a.eval x = .pointer (some ⟨g, off, none⟩) → w.heap[g]? = some (.cells vs ty (0, 0)) → (xs ≠ [] → off + xs.length ≤ vs.size) →
    (xs = [] → K a w) → (xs ≠ [] → ∀ us : List Value, us.length = xs.length → RelL G.σ us (xs.map AV.unown) → TagsOk G us xs → K a (w.setRow g (vs.toList.take off ++ us ++ vs.toList.drop (off + us.length)).toArray)) → o.wp P a w K Q := by
   intro g off ty vs xs u hyv hc hlen hpv hg hle k0 k1
   obtain ⟨hr1, ht1⟩ := (h.ev hy hyv).cells hc
   have hul : (a.eval y).cells.toList.length = xs.length := by simpa using hr1.1
   have hlen' : (a.eval y).cells.size = inf.size := by simp at hul; omega
   by_cases hne : xs = []
   ·subst hne
    have hz : (a.eval y).cells.toList = [] := List.eq_nil_of_length_eq_zero (by simpa using hul)
    have hz2 : inf.size = 0 := by rw [← hlen']; simpa using congrArg List.length hz
    have hrun : (execOp a.eval o).run P w = .ok .skip w := by
     simp [execOp, ho, hpv, Instr.storeAt, Instr.sureAddr, storeVar, sizeOf, typeInfo, hinf, hlen', hz, hz2, storeCells]
    unfold Oper.wp
    rw [hrun, Oper.upon_skip, hd]
    exact k0 rfl
   ·have hst := run_storeCells_at P g off ty (a.eval y).cells.toList 0 vs w hg (by have := hle hne; simp at hul ⊢; omega) hr1.one
    have hrun : (execOp a.eval o).run P w = .ok .skip (w.setRow g (vs.toList.take off ++ (a.eval y).cells.toList ++ vs.toList.drop (off + (a.eval y).cells.toList.length)).toArray) := by
     simp only [Nat.add_zero] at hst
     simp only [execOp, ho, hpv, Instr.storeAt, Instr.sureAddr, storeVar, sizeOf, typeInfo, Sem.run_bind, run_program, Result.andThen_ok, hinf, Sem.run_pure, hlen', ne_eq, not_true_eq_false, if_false, hst]
    unfold Oper.wp
    rw [hrun, Oper.upon_skip, hd]
    exact k1 hne _ hul hr1 ht1
  simp only [astep] at hs
  split at hs
  ·rename_i id esz ie k c u hxv hyv
   split at hs
   ·rename_i xs cs hc hb
    split at hs
    ·rename_i c' hlen hsp
     cases hs
     obtain ⟨hcl, hce⟩ := hp
     have hlen := Nat.eq_of_beq_eq_true hlen
     obtain ⟨_, g0, hpv, hg0⟩ := h.ev hx hxv
     obtain ⟨hb, hmp⟩ := cbox_some hb
     obtain ⟨g, hB, hge, ty, vs, hg, hrl, htg, hfz⟩ := h.box id cs false hb
     replace hg := hg.cells hmp
     rw [← hg0 g hB] at hpv
     obtain ⟨q1, q2, q3⟩ := splice_spec hsp
     have hvl : vs.size = cs.length := by have := hrl.1; simpa using this
     have hfit : xs ≠ [] → ie * esz + esz ≤ cs.length := fun hne => by
      have h1 := q2 hne
      have h2 : ((cs.drop (ie * esz)).take esz).length = esz := by rw [hce]; exact hcl
      rw [List.length_take, List.length_drop] at h2
      have : 0 < xs.length := by cases xs with | nil => exact absurd rfl hne | cons _ _ => simp
      omega
     refine go hyv hc hlen hpv hg (fun hne => ?_) (fun he => ?_) fun hne us hul hr ht => ?_
     ·have h1 := q2 hne; have h2 := hfit hne; omega
     ·subst he
      have e1 : c' = c := by rw [q1]; simp
      rw [e1] at hk
      rw [show cs.take (ie * esz) ++ c ++ cs.drop (ie * esz + esz) = cs by rw [← hce]; exact mid_eq cs _ _] at hk
      exact hk _ _ _ (h.rebox hb)
     ·have h1 := q2 hne
      have h2 := hfit hne
      refine hk _ _ _ (h.write hb hB hge hg hfz ?_ ?_)
      ·have e2 : cs.take (ie * esz) ++ c' ++ cs.drop (ie * esz + esz) = cs.take (ie * esz + k) ++ xs ++ cs.drop (ie * esz + k + xs.length) := by
        rw [q1, ← hce, List.take_take, List.drop_take, List.drop_drop, Nat.min_eq_left (by omega)]
        rw [show ie * esz + (k + xs.length) = ie * esz + k + xs.length by omega, List.take_add (i := ie * esz) (j := k)]
        simp only [List.append_assoc]
        congr 3
        have := List.take_append_drop (esz - (k + xs.length)) (cs.drop (ie * esz + k + xs.length))
        rw [List.drop_drop, show ie * esz + k + xs.length + (esz - (k + xs.length)) = ie * esz + esz by omega] at this
        exact this
       rw [e2, ← hul]
       simp only [List.map_append, List.map_take, List.map_drop]
       exact ((hrl.take _).append hr).append (hrl.drop _)
      ·have e2 : cs.take (ie * esz) ++ c' ++ cs.drop (ie * esz + esz) = cs.take (ie * esz + k) ++ xs ++ cs.drop (ie * esz + k + xs.length) := by
        rw [q1, ← hce, List.take_take, List.drop_take, List.drop_drop, Nat.min_eq_left (by omega)]
        rw [show ie * esz + (k + xs.length) = ie * esz + k + xs.length by omega, List.take_add (i := ie * esz) (j := k)]
        simp only [List.append_assoc]
        congr 3
        have := List.take_append_drop (esz - (k + xs.length)) (cs.drop (ie * esz + k + xs.length))
        rw [List.drop_drop, show ie * esz + k + xs.length + (esz - (k + xs.length)) = ie * esz + esz by omega] at this
        exact this
       rw [e2, ← hul]
       intro j v x hv hx'
       have hvl2 : vs.toList.length = cs.length := by simpa using hvl
       by_cases hj : j < ie * esz + k
       ·rw [List.append_assoc, List.getElem?_append_left (by rw [List.length_take]; omega), List.getElem?_take, if_pos hj] at hv hx'
        exact htg j v x hv hx'
       ·rw [List.append_assoc, List.getElem?_append_right (by rw [List.length_take]; omega), List.length_take] at hv hx'
        rw [show min (ie * esz + k) vs.toList.length = ie * esz + k by omega] at hv
        rw [show min (ie * esz + k) cs.length = ie * esz + k by omega] at hx'
        by_cases hj2 : j - (ie * esz + k) < us.length
        ·rw [List.getElem?_append_left hj2] at hv
         rw [List.getElem?_append_left (by omega)] at hx'
         exact ht _ v x hv hx'
        ·rw [List.getElem?_append_right (by omega), List.getElem?_drop] at hv
         rw [List.getElem?_append_right (by omega), List.getElem?_drop] at hx'
         exact htg _ v x hv (by rw [← hx', hul])
    ·cases hs
   ·cases hs
  ·rename_i id off u hxv hyv
   split at hs
   ·rename_i xs old hc hb
    split at hs
    ·rename_i new hlen hsp
     cases hs
     obtain ⟨g, hB, hpv, _⟩ := h.ev hx hxv
     obtain ⟨hb, hmp⟩ := cbox_some hb
     obtain ⟨g', hB', hge, ty, vs, hg, hrl, htg, hfz⟩ := h.box id old false hb
     replace hg := hg.cells hmp
     rw [hB] at hB'
     cases hB'
     have hlen := Nat.eq_of_beq_eq_true hlen
     obtain ⟨q1, q2, q3⟩ := splice_spec hsp
     have hvl : vs.size = old.length := by have := hrl.1; simpa using this
     refine go hyv hc hlen hpv hg (fun hne => by have := q2 hne; omega) (fun he => ?_) fun hne us hul hr ht => ?_
     ·subst he
      have hnew : new = old := by rw [q1]; simp
      subst hnew
      exact hk _ _ _ (h.rebox hb)
     ·have hsp2 := hrl.splice htg hr ht hsp (by have := q2 hne; simp; omega)
      exact hk _ _ _ (h.write hb hB hge hg hfz hsp2.1 hsp2.2)
    ·cases hs
   ·cases hs
  ·rename_i id off u hxv hyv
   split at hs
   ·rename_i xs old hc hb
    split at hs
    ·rename_i new hlen hsp
     cases hs
     obtain ⟨_, _, g0, hpv, hg0⟩ := h.ev hx hxv
     obtain ⟨hb, hmp⟩ := cbox_some hb
     obtain ⟨g, hB, hge, ty, vs, hg, hrl, htg, hfz⟩ := h.box id old false hb
     replace hg := hg.cells hmp
     rw [← hg0 g hB, npV_ptr hmp] at hpv
     have hlen := Nat.eq_of_beq_eq_true hlen
     obtain ⟨q1, q2, q3⟩ := splice_spec hsp
     have hvl : vs.size = old.length := by have := hrl.1; simpa using this
     refine go hyv hc hlen hpv hg (fun hne => by have := q2 hne; omega) (fun he => ?_) fun hne us hul hr ht => ?_
     ·subst he
      have hnew : new = old := by rw [q1]; simp
      subst hnew
      exact hk _ _ _ (h.rebox hb)
     ·have hsp2 := hrl.splice htg hr ht hsp (by have := q2 hne; simp; omega)
      exact hk _ _ _ (h.write hb hB hge hg hfz hsp2.1 hsp2.2)
    ·cases hs
   ·cases hs
  ·cases hs
 ·cases hi
theorem fn_open {σ : Sg} {v : Value} {f : FuncId} {cap : List AV} (h : Rel1 σ v (.fn f cap)) : ∃ us : List Value, v = .func (.func f) #[] us.toArray ∧ RelL σ us cap := by
 cases h with
 | fn f cap us hl g hg hr => exact ⟨us, rfl, hl, fun j v x hv hx => by rw [hg j v hv]; exact hr j x hx⟩
theorem RelP.of1 {σ : Sg} {v : Value} {c : AV} (h : Rel1 σ v c) : RelP σ v c := by cases c <;> first | exact h | cases h
theorem RelS.ofR {v : Value} {r : AV} (h : RelR G.σ v r) : RelS G v r := by
 cases r <;> first
  | exact RelS.of1 h
  | exact RelS0.ofTup h
  | (obtain ⟨us, he, h4⟩ := h; exact ⟨us, he, by rw [h4.map_unown]; exact h4, h4.tags⟩)
theorem evs_rel (h : Conc E G fr st a w) : ∀ {xs : List Operand} {ts : List TypeId} {ys : List Opd} {as bs : List AV}, opdsOf P xs ts = some ys → evs fr ys = some as → argsOf as = some bs → RelPs G.σ (xs.map a.eval) bs
 | [], ts, ys, as, bs, h1, h2, h3 => by cases h1; cases h2; cases h3; exact ⟨rfl, fun j v x hv => by simp at hv⟩
 | x :: xs, ts, ys, as, bs, h1, h2, h3 => by
  unfold opdsOf at h1
  split at h1
  ·rename_i y ys' hy hys
   cases h1
   unfold evs at h2
   split at h2
   ·rename_i c as' hc has
    cases h2
    unfold argsOf at h3
    split at h3
    ·rename_i b bs' hb hbs
     cases h3
     have ih := evs_rel h hys has hbs
     have h0 := (h.ev hy hc).arg hb
     refine ⟨by simp [ih.1], fun j v z hv hz => ?_⟩
     cases j with
     | zero => simp at hv hz; subst hv hz; exact h0
     | succ j => exact ih.2 j v z (by simpa using hv) (by simpa using hz)
    ·cases h3
   ·cases h2
  ·cases h1
theorem Conc.anew0 (h : Conc E G fr st a w) {d : Nat} (hd : d < E.n) (hfd : fr d = none) {g cap esz : Nat} {rows : List (List AV)} (hge : E.own g) (hr : FRowW G.σ w g cap esz rows) (hB : ∀ id, G.B id ≠ some g) (hρ : ∀ s r, G.ρ s (st.row s) = some r → r.g ≠ g) (hφ : ∀ k x, G.φ k = some x → x.g ≠ g)
  {v : Value} {y : AV} (hy : RelS { G with φ := upd G.φ d (some ⟨g, cap, esz, rows⟩) } v y) : Conc E { G with φ := upd G.φ d (some ⟨g, cap, esz, rows⟩) } (put1 fr d y) st (a.put (some d) v) w := by
 have hn := h.pnone d hfd
 have hle : G.le { G with φ := upd G.φ d (some ⟨g, cap, esz, rows⟩) } := ⟨Sg.le.refl _, fun _ _ _ h => h, fun k x hk => by
  simp only
  rw [upd_at, if_neg (fun e => by rw [e, hn] at hk; cases hk)]
  exact hk, fun _ _ _ h => h⟩
 refine {
  defers := by rw [defers_put]; exact h.defers
  size := by rw [size_put]; exact h.size
  slots := fun s y hs => ?_
  hold := h.hold
  ext := h.ext
  below := h.below
  box := fun id cs fz hs => ?_
  bnone := h.bnone
  binj := h.binj
  row := h.row
  rinj := h.rinj
  rlt := h.rlt
  phi := fun k x hk => ?_
  phinj := fun k k' x x' hk hk' he => ?_
  pnone := fun k hk => ?_
  small := h.small
  keep := h.keep }
 ·rw [getD_put a _ s (by rw [h.size]; exact hd)]
  unfold put1 at hs
  rw [upd_at] at hs
  by_cases hsd : s = d
  ·rw [if_pos hsd] at hs ⊢
   cases hs
   exact hy
  ·rw [if_neg hsd] at hs ⊢
   exact (h.slots s y hs).mono hle fun _ _ _ _ hg => hg
 ·obtain ⟨g', h1, h2, t', vs', h3, h4, h5, h6⟩ := h.box id cs fz hs
  exact ⟨g', h1, h2, t', vs', h3, h4, h5.mono hle, h6⟩
 ·simp only at hk
  rw [upd_at] at hk
  split at hk
  ·cases hk
   exact ⟨⟨hge, hr⟩, hB, hρ⟩
  ·exact h.phi k x hk
 ·simp only at hk hk'
  rw [upd_at] at hk hk'
  split at hk
  ·rename_i e
   split at hk'
   ·rename_i e'; rw [e, e']
   ·cases hk; exact absurd he.symm (hφ _ _ hk')
  ·split at hk'
   ·cases hk'; exact absurd he (hφ _ _ hk)
   ·exact h.phinj k k' x x' hk hk' he
 ·unfold put1 at hk
  rw [upd_at] at hk
  split at hk
  ·cases hk
  ·rename_i e
   simp only
   rw [upd_at, if_neg e]
   exact h.pnone k hk
theorem Conc.anew (h : Conc E G fr st a w) {d : Nat} (hd : d < E.n) (hfd : fr d = none) {g cap esz : Nat} {rows : List (List AV)} (hge : E.own g) (hr : FRowW G.σ w g cap esz rows) (hB : ∀ id, G.B id ≠ some g) (hρ : ∀ s r, G.ρ s (st.row s) = some r → r.g ≠ g) (hφ : ∀ k x, G.φ k = some x → x.g ≠ g) :
  ∃ G', Conc E G' (put1 fr d (.frs d esz rows)) st (a.put (some d) (.slice (some ⟨g, 0, none⟩) rows.length cap)) w :=
 ⟨_, h.anew0 hd hfd hge hr hB hρ hφ (y := .frs d esz rows) ⟨.top _ rfl, g, cap, upd_same _ _ _, rfl⟩⟩
theorem Conc.give (h : Conc E G fr st a w) {id g : Nat} {x : List AV × Bool} (hid : 1000000 ≤ id) (hb : st.box id = some x) (hB : G.B id = some g) (hge : E.own g) (hfree : ∀ j, G.σ g j = none) {w' : World} (hbb : BelowBut g w w') {σ' : Sg} (hx : Ext G.σ σ' w.heap.size) (hh : Holds σ' w') :
  Conc E { G with σ := σ', B := upd G.B id none } fr { st with box := upd st.box id none } a w' := by
 have hle : G.le { G with σ := σ', B := upd G.B id none } := ⟨hx.1, fun _ _ _ h => h, fun _ _ h => h, fun id' g' _ hg => by
  simp only at hg
  rw [upd_at] at hg
  split at hg
  ·cases hg
  ·exact hg⟩
 have hBup : ∀ id' g', upd G.B id none id' = some g' → id' ≠ id ∧ G.B id' = some g' := fun id' g' hg => by
  rw [upd_at] at hg
  split at hg
  ·cases hg
  ·rename_i e; exact ⟨e, hg⟩
 have hσ : ∀ b, b < w.heap.size → ∀ j, σ' b j = G.σ b j := fun b hb j => hx.2 b j hb
 refine {
  defers := h.defers
  size := h.size
  slots := fun s y hs => ?_
  hold := hh
  ext := h.ext.trans (hx.toK fun _ => False) h.lt (fun _ h => False.elim h)
  below := h.below.trans (K' := fun b => b = g) ⟨hbb.os, hbb.tape, hbb.output, hbb.size, fun k hk hn => hbb.block k hk hn⟩ (by rintro x rfl; exact hge.symm)
  box := fun id' cs fz hs => ?_
  bnone := fun id' hs => ?_
  binj := fun id1 id2 g' h1 h2 => h.binj id1 id2 g' (hBup _ _ h1).2 (hBup _ _ h2).2
  row := fun s r hs => ?_
  rinj := h.rinj
  rlt := h.rlt
  phi := fun k x hk => ?_
  phinj := h.phinj
  pnone := h.pnone
  small := h.small
  keep := fun id g h2 hg => h.keep id g h2 (hBup _ _ hg).2 }
 ·exact (h.slots s y hs).mono2 hle fun id' g' hlt hg => by
   simp only
   rw [upd_at, if_neg (by omega)]
   exact hg
 ·simp only at hs
  rw [upd_at] at hs
  split at hs
  ·cases hs
  ·rename_i e
   obtain ⟨g2, k1, k2, t2, vs2, k3, k4, k5, k6⟩ := h.box id' cs fz hs
   have hlt := k3.lt
   have hne : g2 ≠ g := fun e' => e (h.binj id' id g (e' ▸ k1) hB)
   refine ⟨g2, by simp only; rw [upd_at, if_neg e]; exact k1, k2, t2, vs2, k3.of (hbb.block g2 hlt hne), k4.mono hx.1, k5.mono hle, ?_⟩
   cases fz with
   | true => exact fun j v hv => hx.1 _ _ _ (k6 j v hv)
   | false => exact fun j => by rw [show ({ G with σ := σ', B := upd G.B id none } : Gho).σ g2 j = σ' g2 j from rfl, hσ g2 hlt]; exact k6 j
 ·simp only at hs ⊢
  rw [upd_at] at hs ⊢
  split at hs
  ·rename_i e; rw [if_pos e]
  ·rename_i e; rw [if_neg e]; exact h.bnone id' hs
 ·obtain ⟨⟨h1, e, cur, h3, h4, h5, h8⟩, h9⟩ := h.row s r hs
  have hlt := lt_of_heap h3
  have hne : r.g ≠ g := fun e' => h9 id (e' ▸ hB)
  exact ⟨⟨h1, e, cur, by rw [hbb.block r.g hlt hne]; exact h3, h4, h5, fun j hj => by rw [show ({ G with σ := σ', B := upd G.B id none } : Gho).σ r.g j = σ' r.g j from rfl, hσ r.g hlt]; exact h8 j hj⟩, fun id' hid' => h9 id' (hBup _ _ hid').2⟩
 ·obtain ⟨⟨h1, h2⟩, h3, h4⟩ := h.phi k x hk
  have hlt := h2.lt
  have hne : x.g ≠ g := fun e' => h3 id (e' ▸ hB)
  exact ⟨⟨h1, h2.on hx.1 (hbb.block _ hlt hne) fun j => by rw [show ({ G with σ := σ', B := upd G.B id none } : Gho).σ x.g j = σ' x.g j from rfl, hσ x.g hlt]; exact h2.free j⟩, fun id' hid' => h3 id' (hBup _ _ hid').2, h4⟩
theorem enter_run {c : Call} {f : Operand} (ho : o.op = .call c) (hc : c.callee = .value f) {fid : FuncId} {us : List Value} (hcb : callable P fid = true) (hfe : a.eval f = .func (.func fid) #[] us.toArray) :
  (execOp a.eval o).run P w = .ok (.enter fid (c.args.toList.map a.eval ++ us).toArray) w := by
 unfold callable at hcb
 cases hfn : P.funcs[fid]? with
 | none => rw [hfn] at hcb; cases hcb
 | some fn =>
  rw [hfn] at hcb
  simp only [Bool.and_eq_true, bne_iff_ne, ne_eq] at hcb
  have hne : (fn.name == "runtime.NumGoroutine") = false := by simpa using hcb.2
  have hbn : fn.body.isNone = false := by cases hb : fn.body <;> simp_all
  have hargsA : (c.args.map a.eval) = (c.args.toList.map a.eval).toArray := Array.ext' (by simp)
  simp only [execOp, ho, resolve, hc, hfe, Deferred.ofValue, Sem.run_bind, Sem.run_pure, Result.andThen_ok, invoke, callFunc, run_program, hfn, hne, hbn, Bool.false_eq_true, if_false]
  rw [hargsA]
  simp
theorem RelPs.append {σ : Sg} {vs us : List Value} {bs cap : List AV} (h : RelPs σ vs bs) (hu : RelL σ us cap) : RelPs σ (vs ++ us) (bs ++ cap) := by
 refine ⟨by simp [h.1, hu.1], fun j v z hv hz => ?_⟩
 by_cases hj : j < vs.length
 ·rw [List.getElem?_append_left hj] at hv
  rw [List.getElem?_append_left (by rw [← h.1]; exact hj)] at hz
  exact h.2 j v z hv hz
 ·rw [List.getElem?_append_right (by omega)] at hv
  rw [List.getElem?_append_right (by rw [← h.1]; omega), ← h.1] at hz
  exact RelP.of1 (hu.2 _ v z hv hz)
theorem call_ac (h : Conc E G fr st a w) {c : Call} {f : Operand} (ho : o.op = .call c) (hc : c.callee = .value f) {fid : FuncId} {cap bs : List AV} {r : AV} {us : List Value} (hfe : a.eval f = .func (.func fid) #[] us.toArray) (hus : RelL G.σ us cap)
  (hrel : RelPs G.σ (c.args.toList.map a.eval) bs) (hAC : AC P fid (bs ++ cap) r) (hn : ∀ d, o.dst = some d → d < E.n) (hk : Then E (match o.dst with | some d => put1 fr d r | none => fr) st K) : o.wp P a w K Q := by
 unfold Oper.wp
 rw [enter_run ho hc hAC.cb hfe, Oper.upon_enter]
 refine (hAC.run G.σ w _ h.hold (hrel.append hus) (E.gwb h.below)).mono fun e w' ⟨σ', v, he, hx, hh, hb, hr⟩ => ?_
 subst he
 have h2 := h.world hb hx hh
 cases hd : o.dst with
 | none => exact hk { G with σ := σ' } a w' (by rw [hd]; exact h2)
 | some d =>
  refine hk { G with σ := σ' } (a.put (some d) v) w' ?_
  rw [hd]
  exact h2.put (hn d hd) (RelS.ofR hr)
theorem call_mf (h : Conc E G fr st a w) {c : Call} {f : Operand} (ho : o.op = .call c) (hc : c.callee = .value f) {fid : FuncId} {cap bs : List AV} {esz : Nat} {rows : List (List AV)} {us : List Value} (hfe : a.eval f = .func (.func fid) #[] us.toArray) (hus : RelL G.σ us cap)
  (hrel : RelPs G.σ (c.args.toList.map a.eval) bs) (hMF : MF P fid (bs ++ cap) esz rows) {d : Nat} (hd : o.dst = some d) (hfd : fr d = none) (hn : ∀ d, o.dst = some d → d < E.n) (hk : Then E (put1 fr d (.frs d esz rows)) st K) : o.wp P a w K Q := by
 unfold Oper.wp
 rw [enter_run ho hc hMF.cb hfe, Oper.upon_enter]
 refine (hMF.run G.σ w _ h.hold (hrel.append hus) (E.gwb h.below)).mono fun e w' ⟨σ', g, cp, he, hx, hh, hb, hge, hr⟩ => ?_
 subst he
 have h2 := h.world hb hx hh
 obtain ⟨G', hG'⟩ := h2.anew (hn d hd) hfd (.inl (Nat.le_trans h.lt hge)) hr (fun id hid => by have := h.Blt id g hid; omega) (fun s r hs e => by have := h.ρlt s r hs; omega) (fun k x hk e => by have := ((h.phi k x hk).1.2).lt; omega)
 rw [hd]
 exact hk _ _ _ hG'
theorem call_mt (h : Conc E G fr st a w) {c : Call} {f : Operand} (ho : o.op = .call c) (hc : c.callee = .value f) {fid : FuncId} {cap bs as : List AV} {esz : Nat} {rows : List (List AV)} {us : List Value} (hfe : a.eval f = .func (.func fid) #[] us.toArray) (hus : RelL G.σ us cap)
  (hrel : RelPs G.σ (c.args.toList.map a.eval) bs) (hMT : MT P fid (bs ++ cap) esz rows as) {d : Nat} (hd : o.dst = some d) (hfd : fr d = none) (hn : ∀ d, o.dst = some d → d < E.n) (hk : Then E (put1 fr d (.tup (.frs d esz rows :: as))) st K) : o.wp P a w K Q := by
 unfold Oper.wp
 rw [enter_run ho hc hMT.cb hfe, Oper.upon_enter]
 refine (hMT.run G.σ w _ h.hold (hrel.append hus) (E.gwb h.below)).mono fun e w' ⟨σ', g, cp, us, he, hus, hx, hh, hb, hge, hr⟩ => ?_
 subst he
 have h2 := h.world hb hx hh
 rw [hd]
 refine hk _ _ _ (h2.anew0 (hn d hd) hfd (.inl (Nat.le_trans h.lt hge)) hr (fun id hid => by have := h.Blt id g hid; omega) (fun s r hs e => by have := h.ρlt s r hs; omega) (fun k x hk e => by have := ((h.phi k x hk).1.2).lt; omega) ?_)
 refine ⟨_, rfl, by simp [hus.1], fun j u x hu hx => ?_⟩
 cases j with
 | zero => cases hu; cases hx; exact ⟨.top _ rfl, g, cp, upd_same _ _ _, rfl⟩
 | succ j => exact .of (hus.2 j u x (by simpa using hu) (by simpa using hx))
theorem RowsOk.flat {esz : Nat} {rows : List (List AV)} (h : RowsOk esz rows) : rows.flatten.length = rows.length * esz ∧ rows.flatten.map AV.unown = rows.flatten := by
 obtain ⟨_, h⟩ := h
 induction rows with
 | nil => simp
 | cons x l ih =>
  obtain ⟨h1, h2⟩ := ih fun c hc => h c (by simp [hc])
  obtain ⟨h3, h4⟩ := h x (by simp)
  constructor
  ·rw [List.flatten_cons, List.length_append, List.length_cons, h1, h3, Nat.add_mul]; omega
  ·rw [List.flatten_cons, List.map_append, h2, h4]
theorem RowsOk.at_ {esz : Nat} {rows : List (List AV)} (h : RowsOk esz rows) {i : Nat} {c : List AV} (hc : rows[i]? = some c) {j : Nat} {x : AV} (hx : c[j]? = some x) : rows.flatten[i * esz + j]? = some x := by
 obtain ⟨_, h⟩ := h
 induction rows generalizing i with
 | nil => simp at hc
 | cons y l ih =>
  have hy := (h y (by simp)).1
  rw [List.flatten_cons]
  cases i with
  | zero =>
   simp at hc
   subst hc
   rw [Nat.zero_mul, Nat.zero_add, List.getElem?_append_left (List.getElem?_eq_some_iff.1 hx).1]
   exact hx
  | succ i =>
   rw [List.getElem?_append_right (by rw [hy, Nat.add_mul]; omega), hy, show (i + 1) * esz + j - esz = i * esz + j by rw [Nat.add_mul]; omega]
   exact ih (by simpa using hc) fun c hc => h c (by simp [hc])
theorem FRowW.ofBox (h : Conc E G fr st a w) {id g cap esz : Nat} {cs : List AV} {rows : List (List AV)} (hb : st.box id = some (cs, false)) (hmp : isMp id = false) (hB : G.B id = some g) (hcs : ∃ sp, cs = rows.flatten ++ sp) (hl : cs.length = cap * esz) (hro : RowsOk esz rows) : FRowW G.σ w g cap esz rows ∧ E.own g := by
 obtain ⟨g', hB', hge, ty, vs, hg, hr, _, hfz⟩ := h.box id cs false hb
 replace hg := hg.cells hmp
 rw [hB] at hB'
 cases hB'
 obtain ⟨sp, rfl⟩ := hcs
 obtain ⟨hfl, hnt⟩ := hro.flat
 have hvs : vs.size = cap * esz := by
  have h1 : vs.toList.length = ((rows.flatten ++ sp).map AV.unown).length := hr.1
  rw [List.length_map, hl] at h1
  simpa using h1
 refine ⟨⟨ty, vs, hg, hvs, ?_, fun c hc => (hro.2 c hc).1, ?_, hr.one, fun j => hfz j⟩, hge⟩
 ·have h1 : rows.length * esz ≤ cap * esz := by rw [← hfl, ← hl]; simp
  exact Nat.le_of_mul_le_mul_right h1 hro.1
 ·have := hr.take (rows.length * esz)
  rw [← List.map_take, ← hfl, List.take_left, hnt] at this
  rw [← hfl]
  exact this
theorem opds_cons {xs : List Operand} {ts : List TypeId} {ys : List Opd} {c : AV} {as : List AV} (h1 : opdsOf P xs ts = some ys) (h2 : evs fr ys = some (c :: as)) : ∃ x xs' y ys' t ts', xs = x :: xs' ∧ opdOf P t x = some y ∧ y.ev fr = some c ∧ opdsOf P xs' ts' = some ys' ∧ evs fr ys' = some as := by
 cases xs with
 | nil => cases h1; cases h2
 | cons x xs =>
  unfold opdsOf at h1
  split at h1
  ·rename_i y ys' hy hys
   cases h1
   unfold evs at h2
   split at h2
   ·rename_i b as' hc has
    cases h2
    exact ⟨x, xs, y, ys', _, _, rfl, hy, hc, hys, has⟩
   ·cases h2
  ·cases h1
theorem call_mr (h : Conc E G fr st a w) {c : Call} {f : Operand} (ho : o.op = .call c) (hc : c.callee = .value f) {fid : FuncId} {cap bs cs : List AV} {id esz cap0 : Nat} {rows rows' : List (List AV)} {us : List Value} (hfe : a.eval f = .func (.func fid) #[] us.toArray) (hus : RelL G.σ us cap)
  {x : Operand} {xs : List Operand} (hxs : c.args.toList = x :: xs) (hx0 : RelS G (a.eval x) (.sli id esz rows.length cap0)) (hrel : RelPs G.σ (xs.map a.eval) bs) (hbx : st.box id = some (cs, false)) (hmp : isMp id = false) (hcs : ∃ sp, cs = rows.flatten ++ sp) (hl : cs.length = cap0 * esz) (hro : RowsOk esz rows)
  (hMR : MR P fid esz rows (bs ++ cap) rows') {d : Nat} (hd : o.dst = some d) (hfd : fr d = none) (hn : ∀ d, o.dst = some d → d < E.n) (hk : Then E (put1 fr d (.frs d esz rows')) { st with box := upd st.box id none } K) : o.wp P a w K Q := by
 obtain ⟨_, hid, _, g0, hv, hg0⟩ := hx0
 obtain ⟨g, hB, hge, _⟩ := h.box id cs false hbx
 rw [← hg0 g hB] at hv
 obtain ⟨hF, _⟩ := FRowW.ofBox h hbx hmp hB hcs hl hro
 unfold Oper.wp
 rw [enter_run ho hc hMR.cb hfe, Oper.upon_enter, hxs, List.map_cons, hv, List.cons_append]
 refine (hMR.run G.σ w g cap0 _ h.hold hF (hrel.append hus) (E.gwb h.below)).mono fun e w' ⟨σ', g', cp, he, hx, hh, hb, hgg, hr⟩ => ?_
 subst he
 have h2 := h.give hid hbx hB hge hF.free hb hx hh
 have hup : ∀ id' g', upd G.B id none id' = some g' → id' ≠ id ∧ G.B id' = some g' := fun id' g' hg => by
  rw [upd_at] at hg
  split at hg
  ·cases hg
  ·rename_i e; exact ⟨e, hg⟩
 obtain ⟨G', hG'⟩ := h2.anew (hn d hd) hfd (g := g') (by rcases hgg with e | e; · rw [e]; exact hge
                                                         ·exact .inl (Nat.le_trans h.lt e)) hr
  (fun id' hid' => by
   obtain ⟨k1, k2⟩ := hup _ _ hid'
   rcases hgg with e | e
   ·subst e; exact k1 (h.binj _ _ _ k2 hB)
   ·have := h.Blt id' g' k2; omega)
  (fun s r hs e' => by
   rcases hgg with e | e
   ·subst e; exact (h.row s r hs).2 id (by rw [e']; exact hB)
   ·have := h.ρlt s r hs; omega)
  (fun k x hk e' => by
   obtain ⟨k1, k2, k3⟩ := h.phi k x hk
   rcases hgg with e | e
   ·subst e; exact k2 id (by rw [e']; exact hB)
   ·have := k1.2.lt; omega)
 rw [hd]
 exact hk _ _ _ hG'
theorem flat_rel {σ σ' : Sg} {v : Value} {r : AV} (hf : r.flat = true) (h : RelR σ v r) : RelR σ' v r := by
 have one : ∀ {u : Value} {x : AV}, x.flat1 = true → Rel1 σ u x → Rel1 σ' u x := by
  intro u x hx hu
  cases hu with
  | int k n => exact .int k n
  | bool b => exact .bool b
  | str s => exact .str s
  | _ => cases hx
 have oneP : ∀ {u : Value} {x : AV}, x.flat1 = true → RelP σ u x → RelP σ' u x := by
  intro u x hx hu
  cases x <;> first | exact one hx hu | cases hx
 cases r with
 | tup l =>
  obtain ⟨vs, e, hl, hr⟩ := h
  refine ⟨vs, e, hl, fun j u x hu hx => oneP ?_ (hr j u x hu hx)⟩
  exact List.all_eq_true.1 (show l.all AV.flat1 = true from hf) x (List.mem_of_getElem? hx)
 | int k n => exact oneP (x := .int k n) rfl h
 | bool b => exact oneP (x := .bool b) rfl h
 | str s => exact oneP (x := .str s) rfl h
 | _ => cases hf
theorem call_rd (h : Conc E G fr st a w) {c : Call} {f : Operand} (ho : o.op = .call c) (hc : c.callee = .value f) {fid : FuncId} {cap bs cs : List AV} {id esz cap0 : Nat} {rows : List (List AV)} {r : AV} {us : List Value} (hfe : a.eval f = .func (.func fid) #[] us.toArray) (hus : RelL G.σ us cap)
  {x : Operand} {xs : List Operand} (hxs : c.args.toList = x :: xs) (hx0 : RelS G (a.eval x) (.sli id esz rows.length cap0)) (hrel : RelPs G.σ (xs.map a.eval) bs) (hbx : st.box id = some (cs, false)) (hmp : isMp id = false) (hcs : ∃ sp, cs = rows.flatten ++ sp) (hl : cs.length = cap0 * esz) (hro : RowsOk esz rows)
  (hfl : r.flat = true) (hAC : AC P fid (.lst .any esz rows :: (bs ++ cap)) r) (hn : ∀ d, o.dst = some d → d < E.n) (hk : Then E (match o.dst with | some d => put1 fr d r | none => fr) st K) : o.wp P a w K Q := by
 obtain ⟨_, hid, hnc, g0, hv, hg0⟩ := hx0
 obtain ⟨g, hB, hge, _⟩ := h.box id cs false hbx
 rw [← hg0 g hB] at hv
 obtain ⟨⟨ty, vs, hg, hvs, hcap, hrl, hr, hone, hfree⟩, _⟩ := FRowW.ofBox h hbx hmp hB hcs hl hro
 have hle : G.σ.le fun b q => if b = g then vs[q]? else G.σ b q := fun b q v hv => by
  have : b ≠ g := fun e => by rw [e, hfree] at hv; cases hv
  simp only [if_neg this]
  exact hv
 have hh : Holds (fun b q => if b = g then vs[q]? else G.σ b q) w := fun b q v hq => by
  simp only at hq
  split at hq
  ·rename_i e
   subst e
   rw [cell_of_row w b q vs ty (0, 0) hg]
   exact hq
  ·exact h.hold b q v hq
 have h0 : Rel1 (fun b q => if b = g then vs[q]? else G.σ b q) (.slice (some ⟨g, 0, none⟩) rows.length cap0) (.lst .any esz rows) := by
  refine .lst .any esz rows _ _ cap0 g 0 (fun i j => vs.getD (i * esz + j) undef) rfl hcap (fun _ => rfl) (fun i c hc => hrl c (List.mem_of_getElem? hc)) (fun i j hi hj => ?_) (fun i j c x hc hx => ?_) trivial
  ·have hlt : i * esz + j < vs.size := by
    have h1 : (i + 1) * esz ≤ cap0 * esz := Nat.mul_le_mul_right _ (by omega)
    rw [Nat.add_mul] at h1
    omega
   simp only [if_true, Nat.zero_add]
   rw [Array.getElem?_eq_getElem hlt, Array.getD, dif_pos hlt]
   rfl
  ·have h1 := hro.at_ hc hx
   obtain ⟨v, hv1, hv2⟩ := (hr.mono hle).at_ h1
   rw [List.getElem?_take] at hv1
   split at hv1
   ·have : vs[i * esz + j]? = some v := by simpa using hv1
    simp only [Array.getD_eq_getD_getElem?, this]
    exact hv2
   ·cases hv1
 have hrel2 : RelPs (fun b q => if b = g then vs[q]? else G.σ b q) (a.eval x :: (xs.map a.eval ++ us)) (.lst .any esz rows :: (bs ++ cap)) := by
  have h1 := (hrel.append hus).mono hle
  refine ⟨by simp [h1.1], fun j v z hv' hz => ?_⟩
  cases j with
  | zero => simp at hv' hz; subst hv' hz; rw [hv]; exact RelP.of1 h0
  | succ j => exact h1.2 j v z (by simpa using hv') (by simpa using hz)
 unfold Oper.wp
 rw [enter_run ho hc hAC.cb hfe, Oper.upon_enter, hxs, List.map_cons, List.cons_append]
 refine (hAC.run _ w _ hh hrel2 (E.gwb h.below)).mono fun e w' ⟨σ', v, he, hx, hh', hb, hr'⟩ => ?_
 subst he
 have h2 := h.same hb
 have h3 := RelS.ofR (G := G) (flat_rel (σ' := G.σ) hfl hr')
 cases hd : o.dst with
 | none => exact hk G a w' (by rw [hd]; exact h2)
 | some d =>
  refine hk G (a.put (some d) v) w' ?_
  rw [hd]
  exact h2.put (hn d hd) h3
theorem told_unown (a : AV) : a.told.unown = a.unown := by
 cases a <;> try rfl
 rename_i t esz l
 cases t <;> rfl
theorem RelB1.ofP {σ : Sg} {B : Nat → Option Nat} {v : Value} {a : AV} (h : RelP σ v a) : RelB1 σ B v a := by
 cases a <;> first
  | exact h
  | cases (h : Rel1 _ _ _)
theorem memN_iff' {s : Nat} : ∀ {l : List Nat}, memN s l = true ↔ s ∈ l
 | [] => by simp [memN]
 | x :: l => by
  unfold memN
  cases hb : Nat.beq x s with
  | true => simp [Nat.eq_of_beq_eq_true hb]
  | false =>
   have : s ≠ x := fun e => by rw [e, Nat.beq_refl] at hb; cases hb
   simp [memN_iff', this]
def inB (B : Nat → Option Nat) (ids : List Nat) : Nat → Option Nat := fun id => match memN id ids with
 | true => B id
 | false => none
theorem inB_some {B : Nat → Option Nat} {ids : List Nat} {id g : Nat} (h : inB B ids id = some g) : id ∈ ids ∧ B id = some g := by
 unfold inB at h
 split at h
 ·rename_i hm; exact ⟨memN_iff'.1 hm, h⟩
 ·cases h
theorem inB_of {B : Nat → Option Nat} {ids : List Nat} {id : Nat} (h : id ∈ ids) : inB B ids id = B id := by
 unfold inB
 rw [memN_iff'.2 h]
theorem TagOk.toB {G : Gho} {v : Value} {a : AV} {ids : List Nat} (h : TagOk G v a) : TagB (inB G.B ids) v a.told := by
 cases a <;> first
  | exact trivial
  | (obtain ⟨h0, g, h1, h2⟩ := h; exact ⟨g, h1, fun g' hg => h2 g' (inB_some hg).2⟩)
  | (obtain ⟨h0, hn, g, h1, h2⟩ := h; exact ⟨hn, g, h1, fun g' hg => h2 g' (inB_some hg).2⟩)
  | (rename_i t _ _; cases t <;> exact trivial)
theorem argsN_rel (h : Conc E G fr st a w) (ids : List Nat) : ∀ {xs : List Operand} {ts : List TypeId} {ys : List Opd} {as bs : List AV}, opdsOf P xs ts = some ys → evs fr ys = some as → argsN as = some bs → RelBs G.σ (inB G.B ids) (xs.map a.eval) bs
 | [], ts, ys, as, bs, h1, h2, h3 => by cases h1; cases h2; cases h3; exact ⟨rfl, fun j v x hv => by simp at hv⟩
 | x :: xs, ts, ys, as, bs, h1, h2, h3 => by
  unfold opdsOf at h1
  split at h1
  ·rename_i y ys' hy hys
   cases h1
   unfold evs at h2
   split at h2
   ·rename_i c as' hc has
    cases h2
    have key : ∃ b bs', bs = b :: bs' ∧ argsN as' = some bs' ∧ RelB1 G.σ (inB G.B ids) (a.eval x) b := by
     have hev := h.ev hy hc
     unfold argsN at h3
     split at h3
     ·rename_i heq; cases heq
     ·rename_i id off l heq
      cases heq
      split at h3
      ·rename_i xs' hx'
       cases h3
       obtain ⟨_, _, g, h1, h2⟩ := hev
       exact ⟨_, _, rfl, hx', g, h1, fun g' hg => h2 g' (inB_some hg).2⟩
      ·cases h3
     ·rename_i id off l heq
      cases heq
      split at h3
      ·rename_i xs' hx'
       cases h3
       obtain ⟨g, h1, h2, h3⟩ := hev
       exact ⟨_, _, rfl, hx', g, h2.trans (npV_ptr (isMp_lt h3) _ _).symm, fun g' hg => by have := (inB_some hg).2; rw [h1] at this; cases this; rfl⟩
      ·cases h3
     ·rename_i id e n c' l heq
      cases heq
      split at h3
      ·rename_i xs' hx'
       cases h3
       obtain ⟨_, _, hn, g, h1, h2⟩ := hev
       exact ⟨_, _, rfl, hx', hn, g, h1, fun g' hg => h2 g' (inB_some hg).2⟩
      ·cases h3
     ·rename_i c' l _ _ _ heq
      cases heq
      split at h3
      ·rename_i b xs' hb hx'
       cases h3
       exact ⟨_, _, rfl, hx', .ofP (hev.arg hb)⟩
      ·cases h3
    obtain ⟨b, bs', rfl, hbs, h0⟩ := key
    have ih := argsN_rel h ids hys has hbs
    refine ⟨by simp [ih.1], fun j v z hv hz => ?_⟩
    cases j with
    | zero => simp at hv hz; subst hv hz; exact h0
    | succ j => exact ih.2 j v z (by simpa using hv) (by simpa using hz)
   ·cases h2
  ·cases h1
theorem RelBs.append {σ : Sg} {B : Nat → Option Nat} {vs us : List Value} {bs cap : List AV} (h : RelBs σ B vs bs) (hu : RelL σ us cap) : RelBs σ B (vs ++ us) (bs ++ cap) := by
 refine ⟨by simp [h.1, hu.1], fun j v z hv hz => ?_⟩
 by_cases hj : j < vs.length
 ·rw [List.getElem?_append_left hj] at hv
  rw [List.getElem?_append_left (by rw [← h.1]; exact hj)] at hz
  exact h.2 j v z hv hz
 ·rw [List.getElem?_append_right (by omega)] at hv
  rw [List.getElem?_append_right (by rw [← h.1]; omega), ← h.1] at hz
  exact .ofP (RelP.of1 (hu.2 _ v z hv hz))
theorem handS_mem {b : Nat → Option (List AV × Bool)} : ∀ {ids : List Nat} {S : List (Nat × List AV)}, handS b ids = some S → domS S = ids ∧ ∀ x ∈ S, ∃ cs, b x.1 = some (cs, false) ∧ x.2 = cs.map AV.told
 | [], S, h => by cases h; exact ⟨rfl, fun x hx => by cases hx⟩
 | id :: l, S, h => by
  unfold handS at h
  split at h
  ·rename_i cs r hb hr
   cases h
   obtain ⟨h1, h2⟩ := handS_mem hr
   refine ⟨by show id :: domS r = _; rw [h1], fun x hx => ?_⟩
   rcases List.mem_cons.1 hx with rfl | hx
   ·exact ⟨cs, hb, rfl⟩
   ·exact h2 x hx
  ·cases h
theorem getS_mem : ∀ {S : List (Nat × List AV)} {id : Nat} {cs : List AV}, getS S id = some cs → (id, cs) ∈ S
 | (i, c) :: l, id, cs, h => by
  unfold getS at h
  split at h
  ·rename_i hb; cases h; rw [Nat.eq_of_beq_eq_true hb]; simp
  ·exact List.mem_cons_of_mem _ (getS_mem h)
theorem getS_none : ∀ {S : List (Nat × List AV)} {id : Nat}, getS S id = none → id ∉ domS S
 | [], id, _ => by simp [domS]
 | (i, c) :: l, id, h => by
  unfold getS at h
  split at h
  ·cases h
  ·rename_i hb
   have : id ≠ i := fun e => by rw [e, Nat.beq_refl] at hb; cases hb
   have ih := getS_none h
   show id ∉ i :: domS l
   simp [this, ih]
theorem mem_newIds {ids : List Nat} : ∀ {S : List (Nat × List AV)} {id : Nat}, id ∈ newIds ids S ↔ id ∈ domS S ∧ id ∉ ids
 | [], id => by simp [newIds, domS]
 | (i, c) :: l, id => by
  unfold newIds
  have e : domS ((i, c) :: l) = i :: domS l := rfl
  rw [e]
  split
  ·rename_i hm
   have hm := memN_iff'.1 hm
   rw [mem_newIds]
   constructor
   ·rintro ⟨h1, h2⟩; exact ⟨List.mem_cons_of_mem _ h1, h2⟩
   ·rintro ⟨h1, h2⟩
    rcases List.mem_cons.1 h1 with rfl | h1
    ·exact absurd hm h2
    ·exact ⟨h1, h2⟩
  ·rename_i hm
   have hm : i ∉ ids := fun e => by rw [memN_iff'.2 e] at hm; cases hm
   rw [List.mem_cons, mem_newIds]
   constructor
   ·rintro (rfl | ⟨h1, h2⟩)
    ·exact ⟨by simp, hm⟩
    ·exact ⟨List.mem_cons_of_mem _ h1, h2⟩
   ·rintro ⟨h1, h2⟩
    rcases List.mem_cons.1 h1 with rfl | h1
    ·exact .inl rfl
    ·exact .inr ⟨h1, h2⟩
theorem freeIds_at {b : Nat → Option (List AV × Bool)} : ∀ {N : List Nat}, freeIds b N = true → ∀ i ∈ N, b i = none ∧ 1000000 ≤ i ∧ i < 2000000
 | [], _, i, hi => by cases hi
 | x :: l, h, i, hi => by
  unfold freeIds at h
  split at h
  ·rename_i hb
   simp only [Bool.and_eq_true] at h
   rcases List.mem_cons.1 hi with rfl | hi
   ·exact ⟨hb, Nat.le_of_ble_eq_true h.1.1, Nat.le_of_ble_eq_true h.1.2⟩
   ·exact freeIds_at h.2 i hi
  ·cases h
theorem clrC_nil : ∀ a : AV, clrC [] a = a := by intro a; cases a <;> rfl
theorem clrA_nil : ∀ a : AV, clrA [] a = a := by
 intro a
 cases a <;> try rfl
 ·rename_i cs
  show AV.agg (cs.map (clrC [])) = _
  rw [show clrC [] = id from funext clrC_nil, List.map_id]
 ·rename_i cs
  show AV.tup (cs.map (clrC [])) = _
  rw [show clrC [] = id from funext clrC_nil, List.map_id]
theorem clrS_nil : ∀ a : AV, clrS [] a = a := by
 intro a
 cases a with
 | when c x => show AV.when c (clrA [] x) = _; rw [clrA_nil]
 | agg cs => exact clrA_nil (.agg cs)
 | tup cs => exact clrA_nil (.tup cs)
 | _ => rfl
theorem clrF_at (N : List Nat) (fr : Fr) (s : Nat) : clrF N fr s = (fr s).map (clrS N) := by
 cases N with
 | nil =>
  show fr s = _
  cases fr s with
  | none => rfl
  | some a => simp [clrS_nil]
 | cons i N =>
  show (match fr s with | some a => some (clrS (i :: N) a) | none => none) = _
  cases fr s <;> rfl
theorem clrB_at (N : List Nat) (b : Nat → Option (List AV × Bool)) (k : Nat) : clrB N b k = (b k).map fun x => (x.1.map (clrC N), x.2) := by
 cases N with
 | nil =>
  show b k = _
  cases b k with
  | none => rfl
  | some x => simp [show clrC [] = id from funext clrC_nil]
 | cons i N =>
  show (match b k with | some (ds, fz) => some (ds.map (clrC (i :: N)), fz) | none => none) = _
  cases b k <;> rfl
structure Gho.leN (N : List Nat) (G G' : Gho) : Prop where
 σ : G.σ.le G'.σ
 ρ : G'.ρ = G.ρ
 φ : G'.φ = G.φ
 B : ∀ id g, 1000000 ≤ id → id ∉ N → G'.B id = some g → G.B id = some g
 lo : ∀ id g, id < 1000000 → G.B id = some g → G'.B id = some g
theorem clrC_rel {N : List Nat} {G' : Gho} (hle : G.leN N G') {v : Value} {x : AV} (h : Rel1 G.σ v x.unown ∧ TagOk G v x) : Rel1 G'.σ v (clrC N x).unown ∧ TagOk G' v (clrC N x) := by
 have hm : ∀ {id : Nat}, memN id N = false → id ∉ N := fun e he => by rw [memN_iff'.2 he] at e; cases e
 cases x with
 | np id off =>
  obtain ⟨h1, h0, g, h2, h3⟩ := h
  simp only [clrC]
  cases hk : memN id N with
  | true => exact ⟨h1.mono hle.σ, trivial⟩
  | false => exact ⟨h1.mono hle.σ, h0, g, h2, fun g' hg => h3 g' (hle.B _ _ h0 (hm hk) hg)⟩
 | sli id e n c =>
  obtain ⟨h1, h0, hn, g, h2, h3⟩ := h
  simp only [clrC]
  cases hk : memN id N with
  | true => exact ⟨h1.mono hle.σ, trivial⟩
  | false => exact ⟨h1.mono hle.σ, h0, hn, g, h2, fun g' hg => h3 g' (hle.B _ _ h0 (hm hk) hg)⟩
 | frs k e r =>
  obtain ⟨h1, g, cap, h2, h3⟩ := h
  exact ⟨h1.mono hle.σ, g, cap, by rw [hle.φ]; exact h2, h3⟩
 | lst t e l =>
  refine ⟨h.1.mono hle.σ, ?_⟩
  cases t with
  | own s ver => exact h.2.imp id fun ⟨g, cap, h2, h3⟩ => ⟨g, cap, h2, by rw [hle.ρ]; exact h3⟩
  | _ => exact trivial
 | _ => exact ⟨h.1.mono hle.σ, trivial⟩
theorem clrCs_rel {N : List Nat} {G' : Gho} (hle : G.leN N G') {vs : List Value} {cs : List AV} (h : RelL G.σ vs (cs.map AV.unown)) (ht : TagsOk G vs cs) : RelL G'.σ vs ((cs.map (clrC N)).map AV.unown) ∧ TagsOk G' vs (cs.map (clrC N)) := by
 have key : ∀ (j : Nat) v b, vs[j]? = some v → cs[j]? = some b → _ := fun j v b hv hb => clrC_rel (v := v) (x := b) hle ⟨h.2 j v _ hv (by rw [List.getElem?_map, hb]; rfl), ht j v b hv hb⟩
 refine ⟨⟨by have := h.1; simpa using this, fun j v b hv hb => ?_⟩, fun j v b hv hb => ?_⟩
 ·rw [List.map_map, List.getElem?_map] at hb
  cases hc : cs[j]? with
  | none => rw [hc] at hb; cases hb
  | some c => rw [hc] at hb; cases hb; exact (key j v c hv hc).1
 ·rw [List.getElem?_map] at hb
  cases hc : cs[j]? with
  | none => rw [hc] at hb; cases hb
  | some c => rw [hc] at hb; cases hb; exact (key j v c hv hc).2
theorem clrT_rel {N : List Nat} {G' : Gho} (hle : G.leN N G') {v : Value} {x : AV} (h : RelT G v x) : RelT G' v (clrC N x) := by
 have hm : ∀ {id : Nat}, memN id N = false → id ∉ N := fun e he => by rw [memN_iff'.2 he] at e; cases e
 cases x with
 | np id off =>
  obtain ⟨h1, h0, g, h2, h3⟩ := h
  simp only [clrC]
  cases hk : memN id N with
  | true => exact (h1.mono hle.σ : Rel1 G'.σ v .top)
  | false => exact ⟨h1.mono hle.σ, h0, g, h2, fun g' hg => h3 g' (hle.B _ _ h0 (hm hk) hg)⟩
 | sli id e n c =>
  obtain ⟨h1, h0, hn, g, h2, h3⟩ := h
  simp only [clrC]
  cases hk : memN id N with
  | true => exact (h1.mono hle.σ : Rel1 G'.σ v .top)
  | false => exact ⟨h1.mono hle.σ, h0, hn, g, h2, fun g' hg => h3 g' (hle.B _ _ h0 (hm hk) hg)⟩
 | frs k e r =>
  obtain ⟨h1, g, cap, h2, h3⟩ := h
  exact ⟨h1.mono hle.σ, g, cap, by rw [hle.φ]; exact h2, h3⟩
 | _ => exact RelT.of (RelP.mono hle.σ (RelT.plain h rfl))
theorem clrA_rel {N : List Nat} {G' : Gho} (hle : G.leN N G') {v : Value} {x : AV} (h : RelS0 G v x) : RelS0 G' v (clrA N x) := by
 have hm : ∀ {id : Nat}, memN id N = false → id ∉ N := fun e he => by rw [memN_iff'.2 he] at e; cases e
 have one : ∀ x : AV, (Rel1 G.σ v x.unown ∧ TagOk G v x) → _ := fun x hx => clrC_rel (v := v) (x := x) hle hx
 cases x with
 | agg cs =>
  obtain ⟨vs, e, h1, h2⟩ := h
  obtain ⟨h3, h4⟩ := clrCs_rel hle h1 h2
  exact ⟨vs, e, h3, h4⟩
 | pel i e j k c =>
  obtain ⟨h1, g', h2, h3⟩ := h
  simp only [clrA]
  cases hk : memN i N with
  | true => exact ⟨(by rw [h2]; exact .top _ rfl : Rel1 G'.σ v .top), trivial⟩
  | false => exact ⟨h1, g', h2, fun g'' hg => h3 g'' (hle.B _ _ h1 (hm hk) hg)⟩
 | ptr i off =>
  obtain ⟨g', h1, h2, h3⟩ := h
  exact ⟨g', hle.lo _ _ (by omega) h1, h2, h3⟩
 | tup l =>
  obtain ⟨vs, e, h1, h2⟩ := h
  refine ⟨vs, e, by rw [h1, List.length_map], fun j u x hu hx => ?_⟩
  rw [List.getElem?_map] at hx
  cases hl : l[j]? with
  | none => rw [hl] at hx; cases hx
  | some y => rw [hl] at hx; cases hx; exact clrT_rel hle (h2 j u y hu hl)
 | when c x => exact h.elim
 | np id off =>
  have := one _ h
  simp only [clrA, clrC] at this ⊢
  split <;> (rename_i hk; rw [hk] at this; exact this)
 | sli i e n c =>
  have := one _ h
  simp only [clrA, clrC] at this ⊢
  split <;> (rename_i hk; rw [hk] at this; exact this)
 | frs k e r => exact one _ h
 | int k n => exact one _ h
 | bool b => exact one _ h
 | str s => exact one _ h
 | lst t e l => exact one _ h
 | ro cs => exact one _ h
 | fn f cap => exact one _ h
 | raw v => exact one _ h
 | top => exact one _ h
theorem clrS_rel {N : List Nat} {G' : Gho} (hle : G.leN N G') {v : Value} {x : AV} (h : RelS G v x) : RelS G' v (clrS N x) := by
 have nw : ∀ {x : AV}, RelS0 G' v x → RelS G' v x := fun {x} h => by cases x <;> first | exact h | exact h.elim
 cases x with
 | when c a => exact ⟨fun hc => clrA_rel hle (h.1 hc), h.2⟩
 | _ => exact nw (clrA_rel hle (by simp only [RelS] at h; exact h))
theorem told1_rel {σ' : Sg} {B' : Nat → Option Nat} {G' : Gho} {ids : List Nat} (hσ : G'.σ = σ') (hB : ∀ id ∈ ids, G'.B id = B' id) {v : Value} {r : AV} (hk : r.told1 ids = true) (h : RelB1 σ' B' v r) : RelS G' v r ∧ RelT G' v r := by
 subst hσ
 have plain : ∀ {r : AV}, RelP G'.σ v r → RelS G' v r := fun {r} h => by
  cases r <;> first
   | exact RelS.of1 h
   | (obtain ⟨us, he, h4⟩ := h; exact ⟨us, he, by rw [h4.map_unown]; exact h4, h4.tags⟩)
 cases r with
 | np id off =>
  simp only [AV.told1, Bool.and_eq_true] at hk
  obtain ⟨g, h1, h2⟩ := h
  have hm := memN_iff'.1 hk.2
  have : RelS G' v (.np id off) := ⟨by rw [h1]; exact .top _ (npV_one _ _ _), Nat.le_of_ble_eq_true hk.1, g, h1, fun g' hg => h2 g' (by rw [← hB id hm]; exact hg)⟩
  exact ⟨this, this⟩
 | sli id e n c =>
  simp only [AV.told1, Bool.and_eq_true] at hk
  obtain ⟨hn, g, h1, h2⟩ := h
  have hm := memN_iff'.1 hk.2
  have : RelS G' v (.sli id e n c) := ⟨by rw [h1]; exact .top _ rfl, Nat.le_of_ble_eq_true hk.1, hn, g, h1, fun g' hg => h2 g' (by rw [← hB id hm]; exact hg)⟩
  exact ⟨this, this⟩
 | frs k e r => cases hk
 | _ => exact ⟨plain h, h⟩
theorem told1_res {σ' : Sg} {B' : Nat → Option Nat} {G' : Gho} {ids : List Nat} (hσ : G'.σ = σ') (hB : ∀ id ∈ ids, G'.B id = B' id) {v : Value} {r : AV} (hk : (match r with | .tup l => l.all (AV.told1 ids) | r => r.told1 ids) = true) (h : RelB σ' B' v r) : RelS G' v r := by
 cases r with
 | tup l =>
  obtain ⟨vs, e, h1, h2⟩ := h
  exact ⟨vs, e, h1, fun j u x hu hx => (told1_rel hσ hB (List.all_eq_true.1 hk x (List.mem_of_getElem? hx)) (h2 j u x hu hx)).2⟩
 | _ => exact (told1_rel hσ hB hk h).1
theorem Conc.handed (h : Conc E G fr st a w) {ids : List Nat} {S S' : List (Nat × List AV)} {r : AV} (hS : handS st.box ids = some S) (hok : okS ids S' r = true) (hfree : freeIds st.box (newIds ids S') = true)
  {σ' : Sg} {w' : World} {B' : Nat → Option Nat} (hx : ExtK (fun b => ∃ id, inB G.B ids id = some b) G.σ σ' w.heap.size) (hh : Holds σ' w') (hb : BelowK (fun b => ∃ id, inB G.B ids id = some b) w w') (hdom : ∀ id g, B' id = some g → id ∈ domS S') (hinj : ∀ id id' g, B' id = some g → B' id' = some g → id = id')
  (hat : BoxesAt σ' w' B' S') (hrange : ∀ id g, B' id = some g → (∃ id', inB G.B ids id' = some g) ∨ w.heap.size ≤ g) (hkept : ∀ id g g', inB G.B ids id = some g → B' id = some g' → g = g') :
  ∃ G', Conc E G' (clrF (newIds ids S') fr) ⟨putS (clrB (newIds ids S') st.box) ids S', st.row⟩ a w' ∧ G'.σ = σ' ∧ ∀ id ∈ domS S', G'.B id = B' id := by
 obtain ⟨hd1, hd2⟩ := handS_mem hS
 unfold okS at hok
 simp only [Bool.and_eq_true] at hok
 obtain ⟨⟨ho1, ho2⟩, _⟩ := hok
 have hids : ∀ id ∈ ids, ∃ cs g, st.box id = some (cs, false) ∧ G.B id = some g := fun id hid => by
  rw [← hd1] at hid
  obtain ⟨x, hx, e⟩ := List.mem_map.1 hid
  obtain ⟨cs, k1, _⟩ := hd2 x hx
  rw [e] at k1
  obtain ⟨g, k2, _⟩ := h.box id cs false k1
  exact ⟨cs, g, k1, k2⟩
 have hKB : ∀ g, (∃ id, inB G.B ids id = some g) → ∃ id ∈ ids, G.B id = some g := fun g ⟨id, hid⟩ => ⟨id, inB_some hid⟩
 have hown : ∀ g, (∃ id, inB G.B ids id = some g) → E.own g := fun g hg => by
  obtain ⟨id, hid, hB⟩ := hKB g hg
  obtain ⟨cs, g', k1, k2⟩ := hids id hid
  obtain ⟨g2, k3, k4, _⟩ := h.box id cs false k1
  rw [hB] at k3
  cases k3
  exact k4
 have hown' : ∀ g, (∃ id, inB G.B ids id = some g) ∨ w.heap.size ≤ g → E.own g := fun g hg => by
  rcases hg with hg | hg
  ·exact hown g hg
  ·exact .inl (Nat.le_trans h.lt hg)
 have hNI : ∀ i ∈ newIds ids S', st.box i = none ∧ 1000000 ≤ i ∧ i < 2000000 := freeIds_at hfree
 -- where variables lie behind it
 let B2 : Nat → Option Nat := fun id => if id ∈ domS S' then B' id else if id ∈ ids then none else G.B id
 have b1 : ∀ id, id ∈ domS S' → B2 id = B' id := fun id hid => if_pos hid
 have b2 : ∀ id g, B2 id = some g → (id ∈ domS S' ∧ B' id = some g) ∨ (id ∉ domS S' ∧ id ∉ ids ∧ G.B id = some g) := fun id g hg => by
  simp only [B2] at hg
  split at hg
  ·rename_i e; exact .inl ⟨e, hg⟩
  ·rename_i e
   split at hg
   ·cases hg
   ·rename_i e2; exact .inr ⟨e, e2, hg⟩
 have apart : ∀ id g, id ∉ ids → G.B id = some g → ¬ ((∃ id', inB G.B ids id' = some g) ∨ w.heap.size ≤ g) := fun id g hid hg hc => by
  rcases hc with hc | hc
  ·obtain ⟨id', hid', hB⟩ := hKB g hc
   have := h.binj id id' g hg hB
   subst this
   exact hid hid'
  ·have := h.Blt id g hg; omega
 have old : ∀ id g, B2 id = some g → (id ∈ domS S' ∧ B' id = some g ∧ ((∃ id', inB G.B ids id' = some g) ∨ w.heap.size ≤ g)) ∨ (id ∉ ids ∧ G.B id = some g) := fun id g hg => by
  rcases b2 id g hg with ⟨k1, k2⟩ | ⟨k1, k2, k3⟩
  ·exact .inl ⟨k1, k2, hrange id g k2⟩
  ·exact .inr ⟨k2, k3⟩
 have hnotK : ∀ g, g < w.heap.size → ¬ (∃ id, inB G.B ids id = some g) → w'.heap[g]? = w.heap[g]? ∧ ∀ j, σ' g j = G.σ g j := fun g hg hn => ⟨hb.block g hg hn, fun j => hx.2 g j hg hn⟩
 have hle : G.leN (newIds ids S') { G with σ := σ', B := B2 } := {
  σ := hx.1
  ρ := rfl
  φ := rfl
  B := fun id g hid hn hg => by
   rcases b2 id g hg with ⟨k1, k2⟩ | ⟨k1, k2, k3⟩
   ·by_cases hm : id ∈ ids
    ·obtain ⟨cs, g0, q1, q2⟩ := hids id hm
     have := hkept id g0 g (by rw [inB_of hm]; exact q2) k2
     rw [← this]
     exact q2
    ·exact absurd (mem_newIds.2 ⟨k1, hm⟩) hn
   ·exact k3
  lo := fun id g hid hg => by
   show B2 id = some g
   by_cases hm : id ∈ ids
   ·have h1 := List.all_eq_true.1 ho1 id hm
    have h2 : Nat.ble 1000000 id = false := by
     cases hq : Nat.ble 1000000 id with
     | false => rfl
     | true => have := Nat.le_of_ble_eq_true hq; omega
    rw [h2, Bool.false_or] at h1
    have h3 := memN_iff'.1 h1
    rw [b1 id h3]
    obtain ⟨x, hx3, e⟩ := List.mem_map.1 h3
    obtain ⟨g', t, vs, k1, _⟩ := hat x.1 x.2 hx3
    rw [e] at k1
    rw [k1, ← hkept id g g' (by rw [inB_of hm]; exact hg) k1]
   ·have h3 : id ∉ domS S' := fun hc => by
     have := (hNI id (mem_newIds.2 ⟨hc, hm⟩)).2.1; omega
    simp only [B2, if_neg h3, if_neg hm]
    exact hg }
 have hput : ∀ id, putS (clrB (newIds ids S') st.box) ids S' id = (match getS S' id with
   | some cs => some (cs, false)
   | none => if id ∈ ids then none else (st.box id).map fun x => (x.1.map (clrC (newIds ids S')), x.2)) := fun id => by
  unfold putS
  cases getS S' id with
  | some cs => rfl
  | none =>
   simp only
   cases hm : memN id ids with
   | true => rw [if_pos (memN_iff'.1 hm)]
   | false => rw [if_neg (fun e => by rw [memN_iff'.2 e] at hm; cases hm), clrB_at]
 refine ⟨{ G with σ := σ', B := B2 }, {
  defers := h.defers
  size := h.size
  slots := fun s x hs => ?_
  hold := hh
  ext := h.ext.trans hx h.lt fun b hb => (hown b hb).symm
  below := h.below.trans hb fun b hb => (hown b hb).symm
  box := fun id cs fz hs => ?_
  bnone := fun id hs => ?_
  binj := fun id1 id2 g h1 h2 => ?_
  row := fun s r hs => ?_
  rinj := h.rinj
  rlt := h.rlt
  phi := fun k x hk => ?_
  phinj := h.phinj
  pnone := fun k hk => h.pnone k (by
   rw [clrF_at] at hk
   cases hf : fr k with
   | none => rfl
   | some y => rw [hf] at hk; cases hk)
  small := h.small
  keep := fun id g h2 hg => ?_ }, rfl, b1⟩
 ·rw [clrF_at] at hs
  cases hf : fr s with
  | none => rw [hf] at hs; cases hs
  | some y => rw [hf] at hs; cases hs; exact clrS_rel hle (h.slots s y hf)
 ·rw [show (⟨putS (clrB (newIds ids S') st.box) ids S', st.row⟩ : St).box id = putS (clrB (newIds ids S') st.box) ids S' id from rfl, hput] at hs
  split at hs
  ·rename_i cs' hg
   cases hs
   have hm := getS_mem hg
   have hd : id ∈ domS S' := List.mem_map.2 ⟨_, hm, rfl⟩
   obtain ⟨g, t, vs, k1, k2, k3, k4, k5⟩ := hat id cs hm
   refine ⟨g, by rw [← b1 id hd] at k1; exact k1, hown' g (hrange id g k1), t, vs, k2, k3, fun j v c hv hc => ?_, fun j => k5 j⟩
   have hin := List.all_eq_true.1 (List.all_eq_true.1 ho2 _ hm) c (List.mem_of_getElem? hc)
   have ht := k4 j v c hv hc
   cases c with
   | np i o =>
    simp only [AV.inS, Bool.and_eq_true] at hin
    obtain ⟨g2, q1, q2⟩ := ht
    exact ⟨Nat.le_of_ble_eq_true hin.1, g2, q1, fun g' hg' => q2 g' (by rw [← b1 i (memN_iff'.1 hin.2)]; exact hg')⟩
   | sli i e n c =>
    simp only [AV.inS, Bool.and_eq_true] at hin
    obtain ⟨qn, g2, q1, q2⟩ := ht
    exact ⟨Nat.le_of_ble_eq_true hin.1, qn, g2, q1, fun g' hg' => q2 g' (by rw [← b1 i (memN_iff'.1 hin.2)]; exact hg')⟩
   | lst t e l => cases t <;> first | trivial | cases hin
   | frs k e r => cases hin
   | _ => trivial
  ·rename_i hg
   have hd := getS_none hg
   split at hs
   ·cases hs
   ·rename_i hm
    cases hbx : st.box id with
    | none => rw [hbx] at hs; cases hs
    | some x =>
     rw [hbx] at hs
     cases hs
     obtain ⟨g, k1, k2, t, vs, k3, k4, k5, k6⟩ := h.box id x.1 x.2 hbx
     obtain ⟨q1, q2⟩ := hnotK g k3.lt fun hc => apart id g hm k1 (.inl hc)
     obtain ⟨q3, q4⟩ := clrCs_rel hle k4 k5
     refine ⟨g, by show B2 id = _; simp only [B2, if_neg hd, if_neg hm]; exact k1, k2, t, vs, k3.of q1, q3, q4, ?_⟩
     cases hf : x.2 with
     | true => rw [hf] at k6; exact fun j v hv => hx.1 _ _ _ (k6 j v hv)
     | false => rw [hf] at k6; exact fun j => (q2 j).trans (k6 j)
 ·rw [show (⟨putS (clrB (newIds ids S') st.box) ids S', st.row⟩ : St).box id = putS (clrB (newIds ids S') st.box) ids S' id from rfl, hput] at hs
  show B2 id = none
  split at hs
  ·cases hs
  ·rename_i hg
   have hd := getS_none hg
   simp only [B2, if_neg hd]
   split at hs
   ·rename_i hm; rw [if_pos hm]
   ·rename_i hm
    rw [if_neg hm]
    cases hbx : st.box id with
    | none => exact h.bnone id hbx
    | some x => rw [hbx] at hs; cases hs
 ·rcases old id1 g h1 with ⟨k1, k2, k3⟩ | ⟨k1, k2⟩ <;> rcases old id2 g h2 with ⟨q1, q2, q3⟩ | ⟨q1, q2⟩
  ·exact hinj id1 id2 g k2 q2
  ·exact absurd k3 (apart id2 g q1 q2)
  ·exact absurd q3 (apart id1 g k1 k2)
  ·exact h.binj id1 id2 g k2 q2
 ·obtain ⟨⟨k1, e, cur, k3, k4, k5, k8⟩, k9⟩ := h.row s r hs
  have hn : ¬ ∃ id, inB G.B ids id = some r.g := fun hc => by
   obtain ⟨id, _, hB⟩ := hKB _ hc
   exact k9 id hB
  obtain ⟨q1, q2⟩ := hnotK r.g (lt_of_heap k3) hn
  refine ⟨⟨k1, e, cur, by rw [q1]; exact k3, k4, k5, fun j hj => (q2 j).trans (k8 j hj)⟩, fun id hid => ?_⟩
  rcases old id r.g hid with ⟨_, _, q⟩ | ⟨_, q⟩
  ·rcases q with q | q
   ·exact hn q
   ·have := lt_of_heap k3; omega
  ·exact k9 id q
 ·obtain ⟨⟨k1, k2⟩, k3, k4⟩ := h.phi k x hk
  have hn : ¬ ∃ id, inB G.B ids id = some x.g := fun hc => by
   obtain ⟨id, _, hB⟩ := hKB _ hc
   exact k3 id hB
  obtain ⟨q1, q2⟩ := hnotK x.g k2.lt hn
  refine ⟨⟨k1, k2.on hx.1 q1 fun j => (q2 j).trans (k2.free j)⟩, fun id hid => ?_, k4⟩
  rcases old id x.g hid with ⟨_, _, q⟩ | ⟨_, q⟩
  ·rcases q with q | q
   ·exact hn q
   ·have := k2.lt; omega
  ·exact k3 id q
 ·rcases b2 id g hg with ⟨k1, k2⟩ | ⟨k1, k2, k3⟩
  ·by_cases hm : id ∈ ids
   ·obtain ⟨cs, g0, q1, q2⟩ := hids id hm
    have := hkept id g0 g (by rw [inB_of hm]; exact q2) k2
    rw [← this]
    exact h.keep id g0 h2 q2
   ·have := (hNI id (mem_newIds.2 ⟨k1, hm⟩)).2.2; omega
  ·exact h.keep id g h2 k3
theorem call_ms (h : Conc E G fr st a w) {c : Call} {f : Operand} (ho : o.op = .call c) (hc : c.callee = .value f) {fid : FuncId} {cap as bs : List AV} {ids : List Nat} {S S' : List (Nat × List AV)} {r : AV} {us : List Value} {ts : List TypeId} {ys : List Opd} (hfe : a.eval f = .func (.func fid) #[] us.toArray) (hus : RelL G.σ us cap)
  (hargs : opdsOf P c.args.toList ts = some ys) (hav : evs fr ys = some as) (hbs : argsN as = some bs) (hS : handS st.box ids = some S) (hok : okS ids S' r = true) (hfree : freeIds st.box (newIds ids S') = true) (hMS : MS P fid S (bs ++ cap) S' r) (hn : ∀ d, o.dst = some d → d < E.n)
  (hk : Then E (match o.dst with | some d => put1 (clrF (newIds ids S') fr) d r | none => clrF (newIds ids S') fr) ⟨putS (clrB (newIds ids S') st.box) ids S', st.row⟩ K) : o.wp P a w K Q := by
 obtain ⟨hd1, hd2⟩ := handS_mem hS
 have hrel := (argsN_rel h ids hargs hav hbs).append (cap := cap) hus
 unfold Oper.wp
 rw [enter_run ho hc hMS.cb hfe, Oper.upon_enter]
 have hgw := E.gwb h.below
 have hat : BoxesAt G.σ w (inB G.B ids) S := fun id cs hm => by
  obtain ⟨cs0, k1, k2⟩ := hd2 _ hm
  simp only at k1 k2
  subst k2
  obtain ⟨g, q1, q2, t, vs, q3, q4, q5, q6⟩ := h.box id cs0 false k1
  have hid : id ∈ ids := by rw [← hd1]; exact List.mem_map.2 ⟨_, hm, rfl⟩
  refine ⟨g, t, vs, by rw [inB_of hid]; exact q1, q3, ?_, fun j v c hv hc => ?_, fun j => q6 j⟩
  ·rw [List.map_map, show AV.unown ∘ AV.told = AV.unown from funext told_unown]
   exact q4
  ·rw [List.getElem?_map] at hc
   cases hc0 : cs0[j]? with
   | none => rw [hc0] at hc; cases hc
   | some c0 => rw [hc0] at hc; cases hc; exact (q5 j v c0 (by simpa using hv) hc0).toB
 refine (hMS.run G.σ w (inB G.B ids) _ h.hold hgw (fun id g hg => by rw [hd1]; exact (inB_some hg).1) (fun id id' g h1 h2 => h.binj id id' g (inB_some h1).2 (inB_some h2).2) (fun id g hg => ?_) hat hrel).mono fun e w' ⟨σ', v, B', he, hx, hh, hb, hdom, hinj, hat', hr, hrange, hkept⟩ => ?_
 ·obtain ⟨k1, k2⟩ := inB_some hg
  rw [← hd1] at k1
  obtain ⟨x, hxS, e⟩ := List.mem_map.1 k1
  obtain ⟨cs, q1, _⟩ := hd2 x hxS
  rw [e] at q1
  obtain ⟨g', q2, q3, _⟩ := h.box id cs false q1
  rw [k2] at q2
  cases q2
  exact E.ownGl q3
 ·subst he
  obtain ⟨G', hG', hσ, hB⟩ := h.handed hS hok hfree hx hh hb hdom hinj hat' hrange hkept
  cases hd : o.dst with
  | none => exact hk G' a w' (by rw [hd]; exact hG')
  | some d =>
   refine hk G' (a.put (some d) v) w' ?_
   rw [hd]
   refine hG'.put (hn d hd) (told1_res hσ hB ?_ hr)
   unfold okS at hok
   simp only [Bool.and_eq_true] at hok
   exact hok.2
theorem sim_mop (h : Conc E G fr st a w) {mo : MO} {d0 : Option Nat} {xs : List Operand} {ts : List TypeId} {ys : List Opd} (hex : ∀ nx w', (moSem mo (xs.map a.eval)).run P w = .ok nx w' → (execOp a.eval o).run P w = .ok nx w') (hd0 : d0 = o.dst) (hdv : mo.val = false → o.dst = none) (hargs : opdsOf P xs ts = some ys) (hs : astep P (.mop mo d0 ys) rs fr st = some (fr', st', p)) (hp : p) (hn : ∀ d, o.dst = some d → d < E.n) (hk : Then E fr' st' K) : o.wp P a w K Q := by
 subst hd0
 simp only [astep] at hs
 split at hs
 ·rename_i as ids S' r hav
  split at hs
  ·rename_i bs S hbs hS
   cases hs
   obtain ⟨hM, hok2⟩ := hp
   rw [Bool.and_eq_true] at hok2
   obtain ⟨hok, hfree⟩ := hok2
   obtain ⟨hd1, hd2⟩ := handS_mem hS
   have hrel := argsN_rel h ids hargs hav hbs
   have hat : BoxesAt G.σ w (inB G.B ids) S := fun id cs hm => by
    obtain ⟨cs0, k1, k2⟩ := hd2 _ hm
    simp only at k1 k2
    subst k2
    obtain ⟨g, q1, q2, t, vs, q3, q4, q5, q6⟩ := h.box id cs0 false k1
    have hid : id ∈ ids := by rw [← hd1]; exact List.mem_map.2 ⟨_, hm, rfl⟩
    refine ⟨g, t, vs, by rw [inB_of hid]; exact q1, q3, ?_, fun j v c hv hc => ?_, fun j => q6 j⟩
    ·rw [List.map_map, show AV.unown ∘ AV.told = AV.unown from funext told_unown]
     exact q4
    ·rw [List.getElem?_map] at hc
     cases hc0 : cs0[j]? with
     | none => rw [hc0] at hc; cases hc
     | some c0 => rw [hc0] at hc; cases hc; exact (q5 j v c0 (by simpa using hv) hc0).toB
   obtain ⟨nx, w', σ', v, B', hrun, hnx, hx, hh, hb, hdom, hinj, hat', hr, hrange, hkept⟩ := hM.run G.σ w (inB G.B ids) _ h.hold (E.gwb h.below) (fun id g hg => by rw [hd1]; exact (inB_some hg).1) (fun id id' g h1 h2 => h.binj id id' g (inB_some h1).2 (inB_some h2).2) (fun id g hg => by
    obtain ⟨k1, k2⟩ := inB_some hg
    rw [← hd1] at k1
    obtain ⟨x, hxS, e⟩ := List.mem_map.1 k1
    obtain ⟨cs, q1, _⟩ := hd2 x hxS
    rw [e] at q1
    obtain ⟨g', q2, q3, _⟩ := h.box id cs false q1
    rw [k2] at q2
    cases q2
    exact E.ownGl q3) hat hrel
   obtain ⟨G', hG', hσ, hB⟩ := h.handed hS hok hfree hx hh hb hdom hinj hat' hrange hkept
   unfold Oper.wp
   rw [hex _ _ hrun, hnx]
   cases hv : mo.val with
   | false =>
    rw [Oper.upon_skip]
    have hd := hdv hv
    rw [hd] at hk ⊢
    exact hk G' a w' hG'
   | true =>
    rw [Oper.upon_value]
    cases hd : o.dst with
    | none => exact hk G' a w' (by rw [hd]; exact hG')
    | some d =>
     refine hk G' (a.put (some d) v) w' ?_
     rw [hd]
     refine hG'.put (hn d hd) (told1_res hσ hB ?_ hr)
     unfold okS at hok
     simp only [Bool.and_eq_true] at hok
     exact hok.2
  ·cases hs
 ·cases hs
theorem sim_call (h : Conc E G fr st a w) {c : Call} {f : Operand} (ho : o.op = .call c) (hc : c.callee = .value f) (hi : opAI P mu gs o = some i) (hs : astep P i rs fr st = some (fr', st', p)) (hp : p) (hn : ∀ d, o.dst = some d → d < E.n) (hco : ∀ d f args, i ≠ .callo d f args) (hk : Then E fr' st' K) : o.wp P a w K Q := by
 unfold opAI at hi
 rw [ho] at hi
 simp only [hc] at hi
 split at hi
 ·rename_i f' args hf hargs
  split at hi
  ·-- a call that may write
   cases hi
   simp only [astep] at hs
   split at hs
   ·rename_i fid cap id esz n cap0 as rows rows' hfv hav
    split at hs
    ·rename_i bs cs d hbs hbx hd
     split at hs
     ·rename_i hfd
      cases hs
      obtain ⟨hcs, hl, hn1, hro, hMR⟩ := hp
      subst hn1
      obtain ⟨us, hfe, hus⟩ := fn_open (h.ev hf hfv).1
      obtain ⟨x, xs, y, ys', t, ts', e1, e2, e3, e4, e5⟩ := opds_cons hargs hav
      exact call_mr h ho hc hfe hus e1 (h.ev e2 e3) (evs_rel h e4 e5 hbs) (cbox_some hbx).1 (cbox_some hbx).2 hcs hl hro hMR hd hfd hn hk
     ·cases hs
    ·cases hs
   ·rename_i fid cap e0 l0 as esz rows hfv hav
    split at hs
    ·rename_i bs d hbs hd
     split at hs
     ·rename_i hfd
      cases hs
      obtain ⟨us, hfe, hus⟩ := fn_open (h.ev hf hfv).1
      obtain ⟨x, xs, y, ys', t, ts', e1, e2, e3, e4, e5⟩ := opds_cons hargs hav
      have hrel := evs_rel h e4 e5 hbs
      obtain ⟨A, cp, _, _, _, hv, _, _, _, _, _, _, h8, _⟩ := lst_open (h.ev e2 e3)
      obtain ⟨k1, k2, k3⟩ := h8 rfl
      rw [k1, k2, k3] at hv
      unfold Oper.wp
      rw [enter_run ho hc hp.cb hfe, Oper.upon_enter, e1, List.map_cons, hv, List.cons_append]
      refine (hp.run G.σ w _ h.hold (hrel.append hus) (E.gwb h.below)).mono fun e w' ⟨σ', g, cp, he, hx, hh, hb, hge, hr⟩ => ?_
      subst he
      have h2 := h.world hb hx hh
      obtain ⟨G', hG'⟩ := h2.anew (hn d hd) hfd (.inl (Nat.le_trans h.lt hge)) hr (fun id hid => by have := h.Blt id g hid; omega) (fun s r hs e => by have := h.ρlt s r hs; omega) (fun k x hk e => by have := ((h.phi k x hk).1.2).lt; omega)
      rw [hd]
      exact hk _ _ _ hG'
     ·cases hs
    ·cases hs
   ·rename_i fid cap id esz n cap0 as rows r hfv hav
    split at hs
    ·rename_i bs cs hbs hbx hfl
     cases hs
     obtain ⟨hcs, hl, hn1, hro, hAC⟩ := hp
     subst hn1
     obtain ⟨us, hfe, hus⟩ := fn_open (h.ev hf hfv).1
     obtain ⟨x, xs, y, ys', t, ts', e1, e2, e3, e4, e5⟩ := opds_cons hargs hav
     exact call_rd h ho hc hfe hus e1 (h.ev e2 e3) (evs_rel h e4 e5 hbs) (cbox_some hbx).1 (cbox_some hbx).2 hcs hl hro hfl hAC hn hk
    ·cases hs
   ·rename_i fid cap as r hfv hav
    split at hs
    ·rename_i bs hbs
     cases hs
     obtain ⟨us, hfe, hus⟩ := fn_open (h.ev hf hfv).1
     exact call_ac h ho hc hfe hus (evs_rel h hargs hav hbs) hp hn hk
    ·cases hs
   ·rename_i fid cap as esz rows hfv hav
    split at hs
    ·rename_i bs d hbs hd
     split at hs
     ·rename_i hfd
      cases hs
      obtain ⟨us, hfe, hus⟩ := fn_open (h.ev hf hfv).1
      exact call_mf h ho hc hfe hus (evs_rel h hargs hav hbs) hp hd hfd hn hk
     ·cases hs
    ·cases hs
   ·cases hs
  ·split at hi
   ·cases hi
    exact absurd rfl (hco _ _ _)
   split at hi
   ·-- a call that is handed variables
    cases hi
    simp only [astep] at hs
    split at hs
    ·rename_i fid cap as r hfv hav
     split at hs
     ·rename_i bs hbs
      cases hs
      obtain ⟨us, hfe, hus⟩ := fn_open (h.ev hf hfv).1
      exact call_ac h ho hc hfe hus (evs_rel h hargs hav hbs) hp hn hk
     ·cases hs
    ·rename_i fid cap as esz rows bs' hfv hav
     split at hs
     ·rename_i bs d hbs hd
      split at hs
      ·rename_i hfd
       cases hs
       obtain ⟨us, hfe, hus⟩ := fn_open (h.ev hf hfv).1
       exact call_mt h ho hc hfe hus (evs_rel h hargs hav hbs) hp hd hfd hn hk
      ·cases hs
     ·cases hs
    ·rename_i fid cap as ids S' r hfv hav
     split at hs
     ·rename_i bs S hbs hS
      cases hs
      obtain ⟨hp, hok⟩ := hp
      rw [Bool.and_eq_true] at hok
      obtain ⟨us, hfe, hus⟩ := fn_open (h.ev hf hfv).1
      exact call_ms h ho hc hfe hus hargs hav hbs hS hok.1 hok.2 hp hn hk
     ·cases hs
    ·cases hs
   ·cases hi
    simp only [astep] at hs
    split at hs
    ·rename_i fid cap as r hfv hav
     split at hs
     ·rename_i bs hbs
      cases hs
      obtain ⟨us, hfe, hus⟩ := fn_open (h.ev hf hfv).1
      exact call_ac h ho hc hfe hus (evs_rel h hargs hav hbs) hp hn hk
     ·cases hs
    ·rename_i fid cap as esz rows hfv hav
     split at hs
     ·rename_i bs d hbs hd
      split at hs
      ·rename_i hfd
       cases hs
       obtain ⟨us, hfe, hus⟩ := fn_open (h.ev hf hfv).1
       exact call_mf h ho hc hfe hus (evs_rel h hargs hav hbs) hp hd hfd hn hk
      ·cases hs
     ·cases hs
    ·cases hs
 ·cases hi
end
end Go.Proofs.YtgidajjjpeboeaaGreatDoor
