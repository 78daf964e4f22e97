/-
  The abstract walk: addresses, lengths, tuples, strings, function values, stores and new variables.
-/
import Derived.Test.YtpcddcfpbohogaaDoorA4
namespace Go.Proofs.YtpcddcfpbohogaaDoor
set_option linter.unusedSimpArgs false
set_option linter.unusedVariables false
open Go.RowKit

section
variable {P : Program} {mu : List Nat} {E : Env} {G : Gho} {fr fr' : Fr} {st st' : St} {a : Act} {w : World} {o : Oper} {K : Act → World → Prop} {Q : Exit → Act → World → Prop} {p : Prop} {rs : Option RS} {i : AI} {gs : Bool}

theorem lst_open {v : Value} {t : Tag} {esz : Nat} {l : List (List AV)} (h : RelS G v (.lst t esz l)) : ∃ (A : Option Addr) (cap b o : Nat) (f : Nat → Nat → Value), v = .slice A l.length cap ∧ l.length ≤ cap ∧ (0 < l.length → A = some ⟨b, o, none⟩) ∧
    (∀ (i : Nat) (c : List AV), l[i]? = some c → c.length = esz) ∧ (∀ i j, i < l.length → j < esz → G.σ b (o + i * esz + j) = some (f i j)) ∧
    (∀ (i j : Nat) (c : List AV) (x : AV), l[i]? = some c → c[j]? = some x → Rel1 G.σ (f i j) x) ∧ TagOk G v (.lst t esz l) ∧ (t = .nil → A = none ∧ l.length = 0 ∧ cap = 0) ∧ (t = .full → cap = l.length) := by
  have key : ∀ t', Rel1 G.σ v (.lst t' esz l) → ∃ (A : Option Addr) (cap b o : Nat) (f : Nat → Nat → Value), v = .slice A l.length cap ∧ l.length ≤ cap ∧ (0 < l.length → A = some ⟨b, o, none⟩) ∧
      (∀ (i : Nat) (c : List AV), l[i]? = some c → c.length = esz) ∧ (∀ i j, i < l.length → j < esz → G.σ b (o + i * esz + j) = some (f i j)) ∧
      (∀ (i j : Nat) (c : List AV) (x : AV), l[i]? = some c → c[j]? = some x → Rel1 G.σ (f i j) x) ∧ (t' = .nil → A = none ∧ l.length = 0 ∧ cap = 0) ∧ (t' = .full → cap = l.length) := by
    intro t' h'
    cases h' with
    | lst t' esz l A n cap b o f hn hlen hA hsz hσ hr ht =>
      subst hn
      exact ⟨A, cap, b, o, f, rfl, hlen, hA, hsz, hσ, hr, fun e => by subst e; exact ht, fun e => by subst e; exact ht⟩
  have h1 : Rel1 G.σ v ((AV.lst t esz l).unown) := h.1
  have h2 : TagOk G v (.lst t esz l) := h.2
  cases t with
  | own s ver =>
    obtain ⟨A, cap, b, o, f, q1, q2, q3, q4, q5, q6, q7, q8⟩ := key .any h1
    exact ⟨A, cap, b, o, f, q1, q2, q3, q4, q5, q6, h2, (fun e => by cases e), (fun e => by cases e)⟩
  | nil => obtain ⟨A, cap, b, o, f, q1, q2, q3, q4, q5, q6, q7, q8⟩ := key _ h1; exact ⟨A, cap, b, o, f, q1, q2, q3, q4, q5, q6, h2, q7, q8⟩
  | full => obtain ⟨A, cap, b, o, f, q1, q2, q3, q4, q5, q6, q7, q8⟩ := key _ h1; exact ⟨A, cap, b, o, f, q1, q2, q3, q4, q5, q6, h2, q7, q8⟩
  | any => obtain ⟨A, cap, b, o, f, q1, q2, q3, q4, q5, q6, q7, q8⟩ := key _ h1; exact ⟨A, cap, b, o, f, q1, q2, q3, q4, q5, q6, h2, q7, q8⟩

theorem lst_nil {v : Value} {t : Tag} {esz : Nat} {l : List (List AV)} (h : RelS G v (.lst t esz l)) (ht : t = .nil) : l = [] := by
  obtain ⟨_, _, _, _, _, _, _, _, _, _, _, _, h8, _⟩ := lst_open h
  exact List.eq_nil_of_length_eq_zero (h8 ht).2.1
theorem sim_off (h : Conc E G fr st a w) {t : TypeId} {x : Operand} {j : Nat} (ho : o.op = .fieldAddr t x j) (hi : opAI P mu gs o = some i) (hs : astep P i rs fr st = some (fr', st', p)) (hn : ∀ d, o.dst = some d → d < E.n) (hk : Then E fr' st' K) : o.wp P a w K Q := by
  unfold opAI at hi
  rw [ho] at hi
  simp only at hi
  split at hi
  · rename_i d x' fs hd hx hu
    split at hi
    · rename_i f hf
      split at hi
      · cases hi
      · rename_i hsz
        cases hi
        have hsz' : (sizeOf f.type).run P w = .ok (P.cellsOf f.type) w := by
          unfold Program.cellsOf at hsz ⊢
          cases hq : P.info? f.type with
          | none => rw [hq] at hsz; simp at hsz
          | some i => simp [sizeOf, typeInfo, hq]
        have hrun : ∀ b q, (Instr.fieldAt t (.pointer (some ⟨b, q, none⟩)) j).run P w = .ok (.pointer (some ⟨b, q + f.offset, none⟩)) w := by
          intro b q
          simp only [Instr.fieldAt, Sem.run_bind, run_underlying hu, Result.andThen_ok, hf, Instr.sureAddr, Sem.run_pure, fieldPlace, hsz']
          rw [if_neg hsz]
          simp [Addr.add_lit]
        simp only [astep] at hs
        split at hs
        · rename_i id off hpv
          cases hs
          obtain ⟨g, hB, hv, hsm⟩ := h.ev hx hpv
          exact sim_value h (v := .pointer (some ⟨g, off + f.offset, none⟩)) (by simp [execOp, ho, hv, hrun]) hd (hn d hd) (x := .ptr id (off + f.offset)) ⟨g, hB, rfl, hsm⟩ hk
        · rename_i cs hpv
          obtain ⟨b, off, vs, hv, hrl, hσ⟩ := ro_open (h.ev hx hpv)
          split at hs
          · rename_i cs' hdr
            cases hs
            obtain ⟨hd1, hd2⟩ := dropN_spec hdr
            refine sim_value h (v := .pointer (some ⟨b, off + f.offset, none⟩)) (by simp [execOp, ho, hv, hrun]) hd (hn d hd) (RelS.of1 (.ro cs' b (off + f.offset) (fun k => (vs.drop f.offset).getD k undef) (fun k hk' => ?_) fun k x hx' => ?_)) hk
            · have : (vs.drop f.offset)[k]? = some ((vs.drop f.offset)[k]'(by rw [List.length_drop, hrl.1, ← List.length_drop, ← hd1]; exact hk')) := List.getElem?_eq_getElem _
              rw [List.getElem?_drop] at this
              rw [Nat.add_assoc, hσ _ _ this, List.getD, List.getElem?_drop, this]
              rfl
            · rw [hd1] at hx'
              obtain ⟨v, hv1, hv2⟩ := (hrl.drop f.offset).at_ hx'
              rw [List.getD, hv1]
              exact hv2
          · cases hs
        · rename_i id esz ie k c hpv
          cases hs
          obtain ⟨hid, g, hv, hg⟩ := h.ev hx hpv
          exact sim_value h (v := .pointer (some ⟨g, ie * esz + k + f.offset, none⟩)) (by simp [execOp, ho, hv, hrun]) hd (hn d hd) (x := .pel id esz ie (k + f.offset) c) ⟨hid, g, by rw [Nat.add_assoc], hg⟩ hk
        · cases hs
    · cases hi
  · cases hi

theorem sim_idx (h : Conc E G fr st a w) {t : TypeId} {x y : Operand} (ho : o.op = .indexAddr t x y) (hi : opAI P mu gs o = some i) (hs : astep P i rs fr st = some (fr', st', p)) (hp : p) (hn : ∀ d, o.dst = some d → d < E.n) (hk : Then E fr' st' K) : o.wp P a w K Q := by
  unfold opAI at hi
  rw [ho] at hi
  simp only at hi
  split at hi
  · rename_i d x' y' e hd hx hy hu
    split at hi
    · rename_i inf hinf
      split at hi
      · rename_i hpos
        cases hi
        simp only [astep] at hs
        split at hs
        · rename_i id esz' n0 cap k n cs hxv hyv
          cases hs
          obtain ⟨he, hn0, hlt⟩ := hp
          subst he
          obtain ⟨_, hid, _, g, hv, hg⟩ := h.ev hx hxv
          have hiv := (h.ev hy hyv).int
          have hb : 0 ≤ n ∧ n < (n0 : Int) := ⟨hn0, hlt⟩
          have hsz : (sizeOf e).run P w = .ok inf.size w := by simp [sizeOf, typeInfo, hinf]
          have hue : P.underlying t = some (.slice (P.elem t)) := by unfold Program.elem; rw [hu]
          have hee : P.elem t = e := by unfold Program.elem; rw [hu]
          have hrun : (Instr.indexAt t (.slice (some ⟨g, 0, none⟩) n0 cap) (.int k n)).run P w = .ok (.pointer (some ⟨g, n.toNat * inf.size + 0, none⟩)) w := by
            rw [run_indexAt_slice w t _ _ _ k n hue, if_pos hb, hee, hsz]
            simp [Addr.add_lit]
          exact sim_value h (v := .pointer (some ⟨g, n.toNat * inf.size + 0, none⟩)) (by simp only [execOp, ho, hv, hiv, Sem.run_bind, hrun, Result.andThen_ok, Sem.run_pure]) hd (hn d hd) (x := .pel id inf.size n.toNat 0 cs) ⟨hid, g, rfl, hg⟩ hk
        · rename_i t' esz' l k n cs hxv hyv
          cases hs
          obtain ⟨he, hn0, hl⟩ := hp
          subst he
          obtain ⟨A, cap, b, q, f, hv, q2, q3, q4, q5, q6, _⟩ := lst_open (h.ev hx hxv)
          have hiv := (h.ev hy hyv).int
          obtain ⟨hlt, hle⟩ := List.getElem?_eq_some_iff.1 hl
          have hA := q3 (by omega)
          subst hA
          have hb : 0 ≤ n ∧ n < (l.length : Int) := ⟨hn0, by omega⟩
          have hsz : (sizeOf e).run P w = .ok inf.size w := by simp [sizeOf, typeInfo, hinf]
          have hue : P.underlying t = some (.slice (P.elem t)) := by unfold Program.elem; rw [hu]
          have hee : P.elem t = e := by unfold Program.elem; rw [hu]
          have hrun : (Instr.indexAt t (.slice (some ⟨b, q, none⟩) l.length cap) (.int k n)).run P w = .ok (.pointer (some ⟨b, q + n.toNat * inf.size, none⟩)) w := by
            rw [run_indexAt_slice w t _ _ _ k n hue, if_pos hb, hee, hsz]
            simp [Addr.add_lit]
          have hcl := q4 _ _ hl
          refine sim_value h (v := .pointer (some ⟨b, q + n.toNat * inf.size, none⟩)) (by simp [execOp, ho, hv, hiv, hrun]) hd (hn d hd) (RelS.of1 (.ro cs b _ (fun j => f n.toNat j) (fun j hj => ?_) fun j x hx' => q6 _ _ _ _ hl hx')) hk
          exact q5 _ _ hlt (by omega)
        · cases hs
      · cases hi
    · cases hi
  · cases hi

theorem sim_bidx (h : Conc E G fr st a w) {t : TypeId} {x y : Operand} (ho : o.op = .index t x y) (hi : opAI P mu gs o = some i) (hs : astep P i rs fr st = some (fr', st', p)) (hp : p) (hn : ∀ d, o.dst = some d → d < E.n) (hk : Then E fr' st' K) : o.wp P a w K Q := by
  unfold opAI at hi
  rw [ho] at hi
  simp only at hi
  split at hi
  · rename_i d x' y' hd hx hy hu
    cases hi
    simp only [astep] at hs
    split at hs
    · rename_i s k n hxv hyv
      cases hs
      obtain ⟨h0, h1⟩ := hp
      have hv := (h.ev hx hxv).str
      have hiv := (h.ev hy hyv).int
      have hlt : n.toNat < s.size := by omega
      have hrun : (Instr.index t (.string s) (.int k n)).run P w = .ok (.int .u8 (s.data.getD n.toNat 0).toNat) w := by
        have e : s[n.toNat]? = some (s.data.getD n.toNat 0) := by
          rw [getElem?_pos s n.toNat hlt]
          congr 1
          show s.data[n.toNat]'hlt = _
          rw [Array.getD, dif_pos (show n.toNat < s.data.size from hlt)]
          rfl
        simp [Instr.index, asIntOf, run_underlying hu, h0, e]
      exact sim_value h (v := .int .u8 (s.data.getD n.toNat 0).toNat) (by simp only [execOp, ho, hv, hiv, Sem.run_bind, hrun, Result.andThen_ok, Sem.run_pure]) hd (hn d hd) (x := .int .u8 (s.data.getD n.toNat 0).toNat) ⟨.int _ _, trivial⟩ hk
    · cases hs
  · cases hi

theorem sim_len (h : Conc E G fr st a w) {c : Call} (ho : o.op = .call c) (hc : c.callee = .builtin .len) (hi : opAI P mu gs o = some i) (hs : astep P i rs fr st = some (fr', st', p)) (hn : ∀ d, o.dst = some d → d < E.n) (hk : Then E fr' st' K) : o.wp P a w K Q := by
  unfold opAI at hi
  rw [ho] at hi
  simp only [hc] at hi
  split at hi
  · rename_i d x t hd hargs' htys'
    have hargs : c.args = #[x] := Array.toList_inj.1 hargs'
    have htys : c.argTypes = #[t] := Array.toList_inj.1 htys'
    have hrun : ∀ v, (Builtin.len_ #[t] o.type #[a.eval x]).run P w = .ok v w → (execOp a.eval o).run P w = .ok (.value v) w := by
      intro v hv
      simp [execOp, ho, resolve, hc, hargs, htys, invoke, builtin, hv]
    split at hi
    · rename_i x' hx hu
      cases hi
      simp only [astep] at hs
      split at hs
      · rename_i heq _; cases heq
      · rename_i heq _; cases heq
      · rename_i heq _; cases heq
      · rename_i s heq hxv
        cases hs
        have hv := (h.ev hx hxv).str
        exact sim_value h (hrun (.int .i64 s.size) (by simp [Builtin.len_, run_underlying hu, hv, goInt])) hd (hn d hd) (x := .int .i64 s.size) ⟨.int _ _, trivial⟩ hk
      · cases hs
    · rename_i x' e hx hu
      cases hi
      simp only [astep] at hs
      split at hs
      · rename_i t' esz l heq hxv
        cases hs
        obtain ⟨A, cap, b, q, f, hv, _⟩ := lst_open (h.ev hx hxv)
        exact sim_value h (hrun (.int .i64 l.length) (by simp [Builtin.len_, run_underlying hu, hv, goInt])) hd (hn d hd) (x := .int .i64 l.length) ⟨.int _ _, trivial⟩ hk
      · rename_i id esz n cap heq hxv
        cases hs
        obtain ⟨_, hid, _, g, hv, hg⟩ := h.ev hx hxv
        exact sim_value h (hrun (.int .i64 n) (by simp [Builtin.len_, run_underlying hu, hv, goInt])) hd (hn d hd) (x := .int .i64 n) ⟨.int _ _, trivial⟩ hk
      · rename_i key esz rows heq hxv
        cases hs
        obtain ⟨_, g, cap, hφ, hv⟩ := h.ev hx hxv
        exact sim_value h (hrun (.int .i64 rows.length) (by simp [Builtin.len_, run_underlying hu, hv, goInt])) hd (hn d hd) (x := .int .i64 rows.length) ⟨.int _ _, trivial⟩ hk
      · rename_i heq _; cases heq
      · cases hs
    · cases hi
  · cases hi

theorem sim_ext (h : Conc E G fr st a w) {x : Operand} {j : Nat} (ho : o.op = .extract x j) (hi : opAI P mu gs o = some i) (hs : astep P i rs fr st = some (fr', st', p)) (hn : ∀ d, o.dst = some d → d < E.n) (hk : Then E fr' st' K) : o.wp P a w K Q := by
  unfold opAI at hi
  rw [ho] at hi
  simp only at hi
  split at hi
  · rename_i d x' hd hx
    cases hi
    simp only [astep] at hs
    split at hs
    · rename_i l hxv
      split at hs
      · rename_i c hc
        cases hs
        obtain ⟨vs, hv, hl, hr⟩ := h.ev hx hxv
        have h0 := getN_spec hc
        have hjl : j < vs.length := by rw [hl]; exact (List.getElem?_eq_some_iff.1 h0).1
        have h1 : vs[j]? = some vs[j] := List.getElem?_eq_getElem hjl
        have h2 := hr j _ _ h1 h0
        have h3 : RelS G vs[j] c := by
          cases c <;> first
            | exact RelS.of1 h2
            | (obtain ⟨us, he, h4⟩ := h2; exact ⟨us, he, by rw [h4.map_unown]; exact h4, h4.tags⟩)
        exact sim_value h (v := vs[j]) (by simp [execOp, ho, hv, Instr.extract, hjl]) hd (hn d hd) h3 hk
      · cases hs
    · cases hs
  · cases hi

theorem sim_conv (h : Conc E G fr st a w) {s t : TypeId} {x : Operand} (ho : o.op = .convert s t x) (hi : opAI P mu gs o = some i) (hs : astep P i rs fr st = some (fr', st', p)) (hn : ∀ d, o.dst = some d → d < E.n) (hk : Then E fr' st' K) : o.wp P a w K Q := by
  unfold opAI at hi
  rw [ho] at hi
  simp only at hi
  split at hi
  · rename_i d x' k0 k hd hx hus hut
    cases hi
    simp only [astep] at hs
    split at hs
    · rename_i k1 n hxv
      cases hs
      have hv := (h.ev hx hxv).int
      exact sim_value h (v := .int k (k.wrap n)) (by simp [execOp, ho, hv, convert, run_underlying hus, run_underlying hut, Conv.intToInt]) hd (hn d hd) (x := .int k (k.wrap n)) ⟨.int _ _, trivial⟩ hk
    · cases hs
  · cases hi
end
end Go.Proofs.YtpcddcfpbohogaaDoor
