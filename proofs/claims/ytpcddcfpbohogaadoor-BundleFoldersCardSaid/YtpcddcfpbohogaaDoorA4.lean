/-
  The abstract walk: each operation that reads or reckons does what its instruction says.
-/
import Derived.Test.YtpcddcfpbohogaaDoorA3
import Derived.Laws.Strings
import Derived.Laws.Strings2
import Derived.Laws.Strings3
import Derived.Laws.Small
namespace Go.Proofs.YtpcddcfpbohogaaDoor
set_option linter.unusedSimpArgs false
set_option linter.unusedVariables false
open Go.RowKit

abbrev Then (E : Env) (fr : Fr) (st : St) (K : Act → World → Prop) : Prop := ∀ G a w, Conc E G fr st a w → K a w
section
variable {P : Program} {mu : List Nat} {E : Env} {G : Gho} {fr fr' : Fr} {st st' : St} {a : Act} {w : World} {o : Oper} {K : Act → World → Prop} {Q : Exit → Act → World → Prop} {p : Prop} {rs : Option RS} {i : AI} {gs : Bool}

theorem sim_value (h : Conc E G fr st a w) {v : Value} (hrun : (execOp a.eval o).run P w = .ok (.value v) w) {d : Nat} (hd : o.dst = some d) (hdn : d < E.n) {x : AV} (hx : RelS G v x) (hk : Then E (put1 fr d x) st K) : o.wp P a w K Q := by
  unfold Oper.wp
  rw [hrun, Oper.upon_value, hd]
  exact hk _ _ _ (h.put hdn hx)

theorem sim_mov (h : Conc E G fr st a w) {x : Operand} (ho : o.op = .move x ∨ o.op = .assign x) (hi : opAI P mu gs o = some i) (hs : astep P i rs fr st = some (fr', st', p)) (hp : p) (hn : ∀ d, o.dst = some d → d < E.n) (hk : Then E fr' st' K) : o.wp P a w K Q := by
  have hrun : (execOp a.eval o).run P w = .ok (.value (a.eval x)) w := by rcases ho with ho | ho <;> simp [execOp, ho]
  have hi' : (match o.dst, opdOf P o.type x with
    | some d, some x => some (AI.mov d x)
    | _, _ => none) = some i := by rcases ho with ho | ho <;> (unfold opAI at hi; rw [ho] at hi; exact hi)
  split at hi'
  · rename_i d y hd hy
    cases hi'
    simp only [astep] at hs
    split at hs
    · rename_i c hc
      cases hs
      exact sim_value h hrun hd (hn d hd) (h.ev hy hc) hk
    · cases hs
  · cases hi'

theorem sim_pick (h : Conc E G fr st a w) {c x y : Operand} (ho : o.op = .pick c x y) (hi : opAI P mu gs o = some i) (hs : astep P i rs fr st = some (fr', st', p)) (hp : p) (hn : ∀ d, o.dst = some d → d < E.n) (hk : Then E fr' st' K) : o.wp P a w K Q := by
  unfold opAI at hi
  rw [ho] at hi
  simp only at hi
  split at hi
  · rename_i d c' x' y' hd hc hx hy
    cases hi
    simp only [astep] at hs
    split at hs
    · rename_i cb hcv
      have hb := (h.ev hc hcv).bool
      have hrun : (execOp a.eval o).run P w = .ok (.value (if cb then a.eval x else a.eval y)) w := by simp [execOp, ho, hb, asBool]
      split at hs
      · have hxv : a.eval x = .bool true := (h.ev (c := .bool true) hx rfl).bool
        split at hs
        · rename_i g e hz
          cases hs
          refine sim_value h hrun hd (hn d hd) (x := .bool (cb || e)) ?_ hk
          cases cb with
          | true => rw [if_pos rfl, hxv]; exact ⟨.bool _, trivial⟩
          | false => rw [if_neg (by simp)]; exact (h.ev hy hz).1 (hp rfl)
        · rename_i e hz
          cases hs
          refine sim_value h hrun hd (hn d hd) (x := .bool (cb || e)) ?_ hk
          cases cb with
          | true => rw [if_pos rfl, hxv]; exact ⟨.bool _, trivial⟩
          | false => rw [if_neg (by simp)]; exact h.ev hy hz
        · cases hs
      · split at hs
        · have hyv : a.eval y = .bool false := (h.ev (c := .bool false) hy rfl).bool
          split at hs
          · rename_i g e hz
            cases hs
            refine sim_value h hrun hd (hn d hd) (x := .bool (cb && e)) ?_ hk
            cases cb with
            | false => rw [if_neg (by simp), hyv]; exact ⟨.bool _, trivial⟩
            | true => rw [if_pos rfl]; exact (h.ev hx hz).1 (hp rfl)
          · rename_i e hz
            cases hs
            refine sim_value h hrun hd (hn d hd) (x := .bool (cb && e)) ?_ hk
            cases cb with
            | false => rw [if_neg (by simp), hyv]; exact ⟨.bool _, trivial⟩
            | true => rw [if_pos rfl]; exact h.ev hx hz
          · cases hs
        · cases hs
    · cases hs
  · cases hi

theorem int_beq (x y : Int) : (x == y) = decide (x = y) := by rw [Bool.eq_iff_iff]; simp
theorem kind_of_eq {k k' : IntKind} (h : kindEq k k' = true) : k = k' := by
  unfold kindEq at h
  have := Nat.eq_of_beq_eq_true h
  cases k <;> cases k' <;> first | rfl | (simp [IntKind.ctorIdx] at this)
theorem bytes_beq (x y : ByteArray) : (x.toList == y.toList) = decide (x = y) := by
  rw [Bool.eq_iff_iff, beq_iff_eq, decide_eq_true_eq, ByteArray.toList_eq, ByteArray.toList_eq]
  exact ⟨fun e => ByteArray.ext (Array.ext' e), fun e => by rw [e]⟩
theorem bytes_leq : ∀ a b : List UInt8, (Op.bytesLess a b || a == b) = !Op.bytesLess b a
  | [], [] => rfl
  | [], b :: bs => by simp [Op.bytesLess]
  | a :: as, [] => by simp [Op.bytesLess]
  | a :: as, b :: bs => by
    have ih := bytes_leq as bs
    simp only [Op.bytesLess]
    by_cases h : a = b
    · subst h
      simp only [UInt8.lt_irrefl, decide_false, Bool.false_or, beq_self_eq_true, Bool.true_and, List.cons_beq_cons]
      exact ih
    · have hne : (a == b) = false := by simpa using h
      have hne' : (b == a) = false := by simpa using fun e => h e.symm
      simp only [hne, hne', Bool.false_and, Bool.or_false, List.cons_beq_cons]
      by_cases hlt : a < b
      · have : ¬ b < a := fun k => UInt8.lt_irrefl _ (UInt8.lt_trans hlt k)
        simp [hlt, this]
      · have : b < a := by
          rcases UInt8.lt_or_lt_of_ne h with k | k
          · exact absurd k hlt
          · exact k
        simp [hlt, this]

theorem intBin_run (op : BinOp) (k : IntKind) (x y : Int) {c : AV} {p : Prop} (h : intBin op k x y = some (c, p)) (hp : p) (t : TypeId) (w : World) : ∃ v, (binOp op t (.int k x) (.int k y)).run P w = .ok v w ∧ ∀ G, RelS G v c := by
  cases op <;> simp only [intBin, Option.some.injEq, Prod.mk.injEq, reduceCtorEq] at h <;> (try obtain ⟨rfl, rfl⟩ := h)
  · exact ⟨_, by simp [binOp, Op.intArith], fun G => ⟨.int _ _, trivial⟩⟩
  · exact ⟨_, by simp [binOp, Op.intArith], fun G => ⟨.int _ _, trivial⟩⟩
  · exact ⟨_, by simp [binOp, Op.intArith], fun G => ⟨.int _ _, trivial⟩⟩
  · exact ⟨_, by simp [binOp, Op.intDiv, hp], fun G => ⟨.int _ _, trivial⟩⟩
  · exact ⟨_, by simp [binOp, Op.intDiv, hp], fun G => ⟨.int _ _, trivial⟩⟩
  · exact ⟨.int k (bits .and k x y), by simp [binOp, intBits_and], fun G => ⟨.int _ _, trivial⟩⟩
  · exact ⟨.int k (bits .or k x y), by simp [binOp, intBits_or], fun G => ⟨.int _ _, trivial⟩⟩
  · exact ⟨.int k (bits .xor k x y), by simp [binOp, intBits_xor], fun G => ⟨.int _ _, trivial⟩⟩
  · exact ⟨.bool (decide (x = y)), by simp [binOp, Op.intCmp, int_beq], fun G => ⟨.bool _, trivial⟩⟩
  · exact ⟨.bool (!decide (x = y)), by simp [binOp, Op.intCmp, bne, int_beq], fun G => ⟨.bool _, trivial⟩⟩
  · exact ⟨.bool (decide (x < y)), by simp [binOp, Op.intCmp], fun G => ⟨.bool _, trivial⟩⟩
  · exact ⟨.bool (decide (x ≤ y)), by simp [binOp, Op.intCmp], fun G => ⟨.bool _, trivial⟩⟩
  · exact ⟨.bool (decide (x > y)), by simp [binOp, Op.intCmp], fun G => ⟨.bool _, trivial⟩⟩
  · exact ⟨.bool (decide (x ≥ y)), by simp [binOp, Op.intCmp], fun G => ⟨.bool _, trivial⟩⟩
theorem strBin_run (op : BinOp) (x y : ByteArray) {c : AV} {p : Prop} (h : strBin op x y = some (c, p)) (hp : p) (t : TypeId) (w : World) : ∃ v, (binOp op t (.string x) (.string y)).run P w = .ok v w ∧ ∀ G, RelS G v c := by
  cases op <;> simp only [strBin, Option.some.injEq, Prod.mk.injEq, reduceCtorEq] at h <;> (try obtain ⟨rfl, rfl⟩ := h)
  · refine ⟨.string (x ++ y), ?_, fun G => ⟨.str _, trivial⟩⟩
    have : ¬ ((x.size + y.size : Nat) : Int) > IntKind.i64.max := by simp only [IntKind.max, IntKind.signed, IntKind.bits]; simp; omega
    simp only [binOp, Op.stringOp, if_neg this, Sem.run_pure]
  · exact ⟨.bool (decide (x = y)), by simp [binOp, Op.stringOp, bytes_beq], fun G => ⟨.bool _, trivial⟩⟩
  · exact ⟨.bool (!decide (x = y)), by simp [binOp, Op.stringOp, bytes_beq], fun G => ⟨.bool _, trivial⟩⟩
  · exact ⟨_, by simp only [binOp, Op.stringOp, Sem.run_pure], fun G => ⟨.bool _, trivial⟩⟩
  · exact ⟨.bool (!Op.bytesLess y.toList x.toList), by simp only [binOp, Op.stringOp, Sem.run_pure, bytes_leq], fun G => ⟨.bool _, trivial⟩⟩
  · exact ⟨.bool (Op.bytesLess y.toList x.toList), by simp only [binOp, Op.stringOp, Sem.run_pure, bytes_leq, Bool.not_not], fun G => ⟨.bool _, trivial⟩⟩
  · exact ⟨_, by simp only [binOp, Op.stringOp, Sem.run_pure], fun G => ⟨.bool _, trivial⟩⟩
theorem boolBin_run (op : BinOp) (x y : Bool) {c : AV} {p : Prop} (h : boolBin op x y = some (c, p)) (t : TypeId) (ht : isBoolT P t = true) (w : World) : ∃ v, (binOp op t (.bool x) (.bool y)).run P w = .ok v w ∧ ∀ G, RelS G v c := by
  have hu : P.underlying t = some .bool := by
    unfold isBoolT at ht
    split at ht
    · assumption
    · cases ht
  have he : (Op.equal t (.bool x) (.bool y)).run P w = .ok (x == y) w := run_equal_bool w t x y hu
  cases op <;> simp only [boolBin, Option.some.injEq, Prod.mk.injEq, reduceCtorEq] at h <;> (try obtain ⟨rfl, rfl⟩ := h)
  · exact ⟨.bool (x == y), by simp [binOp, he], fun G => ⟨.bool _, trivial⟩⟩
  · exact ⟨.bool (x != y), by simp [binOp, he, bne], fun G => ⟨.bool _, trivial⟩⟩
theorem eqGuard_none {op : BinOp} {t : TypeId} {x y : Operand} {u v : Value} (hu : u.oneCell' = true) (hn : u ≠ .nilIface) (w : World) : (eqGuard op t x y u v).run P w = .ok () w := by
  unfold eqGuard
  cases op <;> simp <;> (cases u <;> cases v <;> simp_all [Value.oneCell'])
theorem flat_of {σ : Sg} : ∀ {vs us : List Value} {cs : List AV}, RelL σ vs (cs.map AV.unown) → pcells cs = some us → vs = us
  | [], us, [], h, hf => by cases hf; rfl
  | [], _, _ :: _, h, _ => by have := h.1; simp at this
  | _ :: _, _, [], h, _ => by have := h.1; simp at this
  | v :: vs, us, c :: cs, h, hf => by
    unfold pcells at hf
    split at hf
    · rename_i u us' hu hus
      cases hf
      have h1 := h.head
      rw [flat_of h.tail hus]
      cases c <;> simp only [pcell, reduceCtorEq] at hu <;> cases hu <;> cases h1 <;> rfl
    · cases hf
theorem structEq_op {op : BinOp} {t : TypeId} {neg : Bool} (h : structEq P op t = some neg) : op = eqOp neg := by
  unfold structEq at h
  split at h
  · split at h
    · cases h; rfl
    · cases h
  · split at h
    · cases h; rfl
    · cases h
  · cases h
theorem isC_one {t : TypeId} {x : Operand} {x' : Opd} {u : Value} (hx : opdOf P t x = some x') (hu : x'.ev fr = some (.raw u)) (hk : x'.isK = true) : isC x = true := by
  cases x with
  | const v => rfl
  | tmp n => cases hx; cases hk
  | func f => cases hx; cases hu
  | «global» g => cases hx
theorem isC_of {t : TypeId} {x y : Operand} {x' y' : Opd} {u v : Value} (hx : opdOf P t x = some x') (hu : x'.ev fr = some (.raw u)) (hy : opdOf P t y = some y') (hv : y'.ev fr = some (.raw v)) (hk : (x'.isK || y'.isK) = true) : (isC x || isC y) = true := by
  rw [Bool.or_eq_true] at hk ⊢
  exact hk.imp (isC_one hx hu) (isC_one hy hv)
theorem sim_bin (h : Conc E G fr st a w) {op : BinOp} {t t' : TypeId} {x y : Operand} (ho : o.op = .binOp op t x y t') (hi : opAI P mu gs o = some i) (hs : astep P i rs fr st = some (fr', st', p)) (hp : p) (hn : ∀ d, o.dst = some d → d < E.n) (hk : Then E fr' st' K) : o.wp P a w K Q := by
  unfold opAI at hi
  rw [ho] at hi
  simp only at hi
  split at hi
  · rename_i d x' y' hd hx hy
    split at hi
    · rename_i neg hneg
      cases hi
      have hop := structEq_op hneg
      subst hop
      simp only [astep] at hs
      split at hs
      · rename_i cs ds hu hv
        obtain ⟨us, e1, r1, _⟩ := h.ev hx hu
        obtain ⟨vs, e2, r2, _⟩ := h.ev hy hv
        split at hs
        · rename_i us' vs' hfu hfv
          cases hs
          have := flat_of r1 hfu
          subst this
          have := flat_of r2 hfv
          subst this
          obtain ⟨k1, k2⟩ := hp w x y
          exact sim_value h (by simp only [execOp, ho, e1, e2, Sem.run_bind, k1, Result.andThen_ok, k2]; exact Sem.run_pure ..) hd (hn d hd) (by exact ⟨.bool _, trivial⟩) hk
        · cases hs
      · rename_i u' v' hu hv
        have e1 : a.eval x = u' := (h.ev hx hu).raw
        have e2 : a.eval y = v' := (h.ev hy hv).raw
        split at hs
        · split at hs
          · rename_i hkk
            cases hs
            obtain ⟨k1, k2⟩ := hp w x y (isC_of hx hu hy hv hkk)
            exact sim_value h (by simp only [execOp, ho, e1, e2, Sem.run_bind, k1, Result.andThen_ok, k2]; exact Sem.run_pure ..) hd (hn d hd) (by exact ⟨.bool _, trivial⟩) hk
          · cases hs
        · cases hs
      · cases hs
    cases hi
    simp only [astep] at hs
    split at hs
    · rename_i u v hu hv
      have h1 := h.ev hx hu
      have h2 := h.ev hy hv
      split at hs
      · rename_i c q hb
        cases hs
        have key : ∃ r, (binOp op t (a.eval x) (a.eval y)).run P w = .ok r w ∧ (∀ G, RelS G r c) ∧ (a.eval x).oneCell' = true ∧ a.eval x ≠ .nilIface := by
          unfold binAV at hb
          split at hb
          · split at hb
            · cases hb
              rw [h1.int, h2.int]
              refine ⟨_, ?_, fun G => (show RelS G _ _ from ⟨.int _ _, trivial⟩), rfl, by simp⟩
              have : ¬ (_ : Int) < 0 := Int.not_lt.2 hp
              simp only [binOp, Op.shift, if_neg this, Sem.run_pure]
            · cases hb
              rw [h1.int, h2.int]
              refine ⟨_, ?_, fun G => (show RelS G _ _ from ⟨.int _ _, trivial⟩), rfl, by simp⟩
              have : ¬ (_ : Int) < 0 := Int.not_lt.2 hp
              simp only [binOp, Op.shift, if_neg this, Sem.run_pure]
            split at hb
            · rename_i hkk
              have := kind_of_eq hkk
              subst this
              rw [h1.int, h2.int]
              obtain ⟨r, hr, hg⟩ := intBin_run op _ _ _ hb hp t w (P := P)
              exact ⟨r, hr, hg, rfl, by simp⟩
            · cases hb
          · rw [h1.str, h2.str]
            obtain ⟨r, hr, hg⟩ := strBin_run op _ _ hb hp t w (P := P)
            exact ⟨r, hr, hg, rfl, by simp⟩
          · split at hb
            · rename_i hbt
              rw [h1.bool, h2.bool]
              obtain ⟨r, hr, hg⟩ := boolBin_run op _ _ hb t hbt w (P := P)
              exact ⟨r, hr, hg, rfl, by simp⟩
            · cases hb
          · cases hb
        obtain ⟨r, hr, hg, h3, h4⟩ := key
        exact sim_value h (by simp [execOp, ho, eqGuard_none h3 h4, hr]) hd (hn d hd) (hg G) hk
      · cases hs
    · cases hs
  · cases hi
theorem sim_un (h : Conc E G fr st a w) {op : UnOp} {t : TypeId} {x : Operand} (ho : o.op = .unOp op t x) (hi : opAI P mu gs o = some i) (hs : astep P i rs fr st = some (fr', st', p)) (hn : ∀ d, o.dst = some d → d < E.n) (hk : Then E fr' st' K) : o.wp P a w K Q := by
  unfold opAI at hi
  rw [ho] at hi
  simp only at hi
  split at hi
  · rename_i d x' hd hx
    cases hi
    simp only [astep] at hs
    split at hs
    · rename_i u hu
      have h1 := h.ev hx hu
      split at hs
      · rename_i c hc
        cases hs
        cases u <;> simp only [unAV, reduceCtorEq] at hc
        · rename_i k n
          have := h1.int
          cases op <;> simp only [reduceCtorEq] at hc
          cases hc
          exact sim_value h (v := .int k (k.wrap (0 - n))) (x := .int k (k.wrap (0 - n))) (by simp [execOp, ho, this, Op.unary, Op.intArith]) hd (hn d hd) ⟨.int _ _, trivial⟩ hk
        · rename_i b
          have := h1.bool
          cases op <;> simp only [reduceCtorEq] at hc
          cases hc
          exact sim_value h (v := .bool (!b)) (x := .bool (!b)) (by simp [execOp, ho, this, Op.unary]) hd (hn d hd) ⟨.bool _, trivial⟩ hk
      · cases hs
    · cases hs
  · cases hi

/-- cells that can be read from a place on -/
def Cells (w : World) (b o : Nat) (vs : List Value) : Prop := ∀ (j : Nat) v, vs[j]? = some v → w.cell? ⟨b, o + j, none⟩ = some v
theorem Cells.add {b o : Nat} {vs : List Value} (h : Cells w b o vs) : ∀ (j : Nat) v, vs[j]? = some v → w.cell? ((⟨b, o, none⟩ : Addr).add j) = some v := fun j v hv => by rw [Addr.add_lit]; exact h j v hv
theorem run_isAgg {t : TypeId} (hu : (P.underlying t).isSome = true) : (isAgg t).run P w = .ok (isAggT P t) w := by
  obtain ⟨d, hd⟩ := Option.isSome_iff_exists.1 hu
  unfold isAgg isAggT
  rw [Sem.run_bind, run_underlying hd w]
  simp only [Result.andThen_ok, hd]
  cases d <;> rfl
theorem run_loadVar_agg {t : TypeId} {inf : TypeInfo} (hu : (P.underlying t).isSome = true) (hi : P.info? t = some inf) (ha : isAggT P t = true) {b o : Nat} {vs : List Value} (hc : Cells w b o vs) (hl : vs.length = inf.size) :
    (loadVar t ⟨b, o, none⟩).run P w = .ok (.agg vs.toArray) w := by
  have h1 := run_loadCells_list (P := P) w ⟨b, o, none⟩ vs hc.add
  rw [hl] at h1
  simp [loadVar, run_isAgg hu, ha, sizeOf, typeInfo, hi, h1]
theorem run_loadVar_one {t : TypeId} (hu : (P.underlying t).isSome = true) (ha : isAggT P t = false) {b o : Nat} {v : Value} (hc : w.cell? ⟨b, o, none⟩ = some v) : (loadVar t ⟨b, o, none⟩).run P w = .ok v w := by
  simp [loadVar, run_isAgg hu, ha, hc]
theorem takeN_spec : ∀ {n : Nat} {l r : List AV}, takeN n l = some r → r = l.take n ∧ r.length = n
  | 0, l, r, h => by cases h; simp
  | n + 1, a :: l, r, h => by
    unfold takeN at h
    split at h
    · rename_i r' hr
      cases h
      obtain ⟨h1, h2⟩ := takeN_spec hr
      exact ⟨by rw [h1, List.take_succ_cons], by simp [h2]⟩
    · cases h
  | n + 1, [], r, h => by cases h
theorem dropN_spec : ∀ {n : Nat} {l r : List AV}, dropN n l = some r → r = l.drop n ∧ n ≤ l.length
  | 0, l, r, h => by cases h; simp
  | n + 1, a :: l, r, h => by
    unfold dropN at h
    obtain ⟨h1, h2⟩ := dropN_spec h
    simp [h1, h2]
  | n + 1, [], r, h => by cases h
theorem getN_spec : ∀ {n : Nat} {l : List AV} {a : AV}, getN n l = some a → l[n]? = some a
  | 0, b :: l, a, h => by cases h; rfl
  | n + 1, b :: l, a, h => by
    unfold getN at h
    simpa using getN_spec h
  | 0, [], a, h => by cases h
  | n + 1, [], a, h => by cases h
/-- what a pointer leads to -/
theorem box_cells {g : Nat} {t : TypeId} {vs : Array Value} (hg : w.heap[g]? = some (.cells vs t (0, 0))) (o : Nat) : Cells w g o (vs.toList.drop o) := by
  intro j v hv
  rw [List.getElem?_drop] at hv
  simp [World.cell?, hg]
  simpa using hv
/-- what is read from cells that stay, or from a variable -/
theorem load_rel {t : TypeId} {inf : TypeInfo} (hu : (P.underlying t).isSome = true) (hi : P.info? t = some inf) {b o : Nat} {vs : List Value} {cs : List AV} (hc : Cells w b o vs) (hr : RelL G.σ vs (cs.map AV.unown)) (ht : TagsOk G vs cs) :
    (∀ cs', isAggT P t = true → takeN inf.size cs = some cs' → ∃ v, (loadVar t ⟨b, o, none⟩).run P w = .ok v w ∧ RelS G v (.agg cs')) ∧
    ∀ c, isAggT P t = false → getN 0 cs = some c → ∃ v, (loadVar t ⟨b, o, none⟩).run P w = .ok v w ∧ RelS G v c := by
  refine ⟨fun cs' ha hk => ?_, fun c ha hk => ?_⟩
  · obtain ⟨h1, h2⟩ := takeN_spec hk
    have h3 := hr.take inf.size
    have hl : (vs.take inf.size).length = inf.size := by rw [h3.1, ← List.map_take, List.length_map, ← h1, h2]
    refine ⟨.agg (vs.take inf.size).toArray, run_loadVar_agg hu hi ha (fun j v hv => ?_) hl, vs.take inf.size, rfl, by rw [h1, List.map_take]; exact h3, fun j v x hv hx => ?_⟩
    · rw [List.getElem?_take] at hv
      split at hv
      · exact hc j v hv
      · cases hv
    · rw [h1] at hx
      rw [List.getElem?_take] at hv hx
      split at hv
      · rw [if_pos (by assumption)] at hx; exact ht j v x hv hx
      · cases hv
  · have h0 := getN_spec hk
    have h0' : (cs.map AV.unown)[0]? = some c.unown := by rw [List.getElem?_map, h0]; rfl
    obtain ⟨v, hv, hvr⟩ := hr.at_ h0'
    exact ⟨v, run_loadVar_one hu ha (by simpa using hc 0 v hv), RelS.mk1 hvr (ht 0 v c hv h0)⟩
/-- a pointer to cells that stay -/
theorem ro_open {v : Value} {cs : List AV} (h : RelS G v (.ro cs)) : ∃ b o vs, v = .pointer (some ⟨b, o, none⟩) ∧ RelL G.σ vs cs ∧ ∀ (j : Nat) u, vs[j]? = some u → G.σ b (o + j) = some u := by
  have := (h.1 : Rel1 G.σ v (.ro cs))
  cases this with
  | ro cs b o f hσ hr =>
    refine ⟨b, o, (List.range cs.length).map f, rfl, ⟨by simp, fun j u c hu hc => ?_⟩, fun j u hu => ?_⟩
    · have hj := (List.getElem?_eq_some_iff.1 hc).1
      rw [List.getElem?_map, List.getElem?_range hj] at hu
      cases hu
      exact hr j c hc
    · rw [List.getElem?_map] at hu
      cases hx : (List.range cs.length)[j]? with
      | none => rw [hx] at hu; cases hu
      | some x =>
        rw [hx] at hu
        cases hu
        obtain ⟨hj, hxe⟩ := List.getElem?_eq_some_iff.1 hx
        simp at hj hxe
        subst hxe
        exact hσ _ hj
theorem sim_ld (h : Conc E G fr st a w) {t : TypeId} {x : Operand} (ho : o.op = .load t x) (hi : opAI P mu gs o = some i) (hs : astep P i rs fr st = some (fr', st', p)) (hp : p) (hn : ∀ d, o.dst = some d → d < E.n) (hk : Then E fr' st' K) : o.wp P a w K Q := by
  unfold opAI at hi
  rw [ho] at hi
  simp only at hi
  split at hi
  · rename_i d x' inf hd hx hinf
    split at hi
    · rename_i hu
      cases hi
      simp only [astep] at hs
      split at hs
      · rename_i id off hpv
        obtain ⟨g, hB, hv, _⟩ := h.ev hx hpv
        split at hs
        · rename_i cs fz hb
          obtain ⟨g', hB', h1, ty, vs, hg, hrl, htg, hfz⟩ := h.box id cs fz hb
          rw [hB] at hB'
          cases hB'
          split at hs
          · rename_i cs' hdr
            obtain ⟨hd1, hd2⟩ := dropN_spec hdr
            have hL := load_rel (P := P) (G := G) hu hinf (box_cells hg off) (cs := cs') (by rw [hd1, List.map_drop]; exact hrl.drop off) (fun j u c hu' hc' => by rw [hd1] at hc'; exact htg (off + j) u c (by simpa using hu') (by simpa using hc'))
            split at hs
            · rename_i ha
              split at hs
              · rename_i cs2 htk
                cases hs
                obtain ⟨v, hrun, hrel⟩ := hL.1 _ ha htk
                exact sim_value h (by simp [execOp, ho, hv, Instr.loadAt, Instr.sureAddr, hrun]) hd (hn d hd) hrel hk
              · cases hs
            · rename_i ha
              split at hs
              · rename_i c hgt
                cases hs
                obtain ⟨v, hrun, hrel⟩ := hL.2 _ ha hgt
                exact sim_value h (by simp [execOp, ho, hv, Instr.loadAt, Instr.sureAddr, hrun]) hd (hn d hd) hrel hk
              · cases hs
          · cases hs
        · cases hs
      · rename_i cs hpv
        obtain ⟨b, off, vs, hv, hrl, hσ⟩ := ro_open (h.ev hx hpv)
        have hcl : Cells w b off vs := fun j u hu => h.hold _ _ _ (hσ j u hu)
        have hL := load_rel (P := P) (G := G) hu hinf hcl (cs := cs) (by rw [hrl.map_unown]; exact hrl) hrl.tags
        split at hs
        · rename_i ha
          split at hs
          · rename_i cs2 htk
            cases hs
            obtain ⟨v, hrun, hrel⟩ := hL.1 _ ha htk
            exact sim_value h (by simp [execOp, ho, hv, Instr.loadAt, Instr.sureAddr, hrun]) hd (hn d hd) hrel hk
          · cases hs
        · rename_i ha
          split at hs
          · rename_i c hgt
            cases hs
            obtain ⟨v, hrun, hrel⟩ := hL.2 _ ha hgt
            exact sim_value h (by simp [execOp, ho, hv, Instr.loadAt, Instr.sureAddr, hrun]) hd (hn d hd) hrel hk
          · cases hs
      · rename_i id esz ie k c hpv
        obtain ⟨_, g0, hv0, hg0⟩ := h.ev hx hpv
        split at hs
        · rename_i cs fz hb
          obtain ⟨g, hB, h1, ty, vs, hg, hrl, htg, hfz⟩ := h.box id cs fz hb
          have hv := hv0
          rw [← hg0 g hB] at hv
          split at hs
          · rename_i c' hdr
            obtain ⟨hd1, hd2⟩ := dropN_spec hdr
            have hL : c.length = esz ∧ (cs.drop (ie * esz)).take esz = c → _ := fun hc => load_rel (P := P) (G := G) hu hinf (w := w) (b := g) (o := ie * esz + k) (vs := ((vs.toList.drop (ie * esz)).take esz).drop k) (cs := c')
              (fun j u hj => box_cells hg (ie * esz + k) j u (by
                rw [List.getElem?_drop, List.getElem?_take] at hj
                split at hj
                · rw [List.getElem?_drop] at hj
                  rw [List.getElem?_drop, ← hj, Nat.add_assoc]
                · cases hj))
              (by rw [hd1, ← hc.2, List.map_drop, List.map_take, List.map_drop]; exact ((hrl.drop _).take _).drop _)
              (fun j u x hu' hx' => by
                rw [hd1, ← hc.2, List.getElem?_drop, List.getElem?_take] at hx'
                rw [List.getElem?_drop, List.getElem?_take] at hu'
                split at hx'
                · rename_i hlt
                  rw [if_pos hlt] at hu'
                  rw [List.getElem?_drop] at hx' hu'
                  exact htg _ u x hu' hx'
                · cases hx')
            split at hs
            · rename_i ha
              split at hs
              · rename_i cs2 htk
                cases hs
                obtain ⟨v, hrun, hrel⟩ := (hL hp).1 _ ha htk
                exact sim_value h (by simp [execOp, ho, hv, Instr.loadAt, Instr.sureAddr, hrun]) hd (hn d hd) hrel hk
              · cases hs
            · rename_i ha
              split at hs
              · rename_i x2 hgt
                cases hs
                obtain ⟨v, hrun, hrel⟩ := (hL hp).2 _ ha hgt
                exact sim_value h (by simp [execOp, ho, hv, Instr.loadAt, Instr.sureAddr, hrun]) hd (hn d hd) hrel hk
              · cases hs
          · cases hs
        · cases hs
      · cases hs
    · cases hi
  · cases hi
end
end Go.Proofs.YtpcddcfpbohogaaDoor
