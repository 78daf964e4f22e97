/-
  Laws of the walk that the library lacks: a struct stored whole into a variable in memory; a function's struct result.
-/
import Derived.Test.YtgekcnpfflhpkaaGreatDoorBase
import Derived.Laws.CopyOwn
import Derived.OwnWalk
import Derived.Maps.AppendAt
namespace Go.Proofs.YtgekcnpfflhpkaaGreatDoor
set_option linter.unusedSimpArgs false
set_option linter.unusedVariables false
open Go.RowKit

def Blk (w : World) (g : Nat) (t : TypeId) (cs : Array Value) : Prop := w.heap[g]? = some (.cells cs t (0, 0))

section
variable {w w' : World} {g : Nat} {t : TypeId} {cs : Array Value}
theorem Blk.lt (h : Blk w g t cs) : g < w.heap.size := (Array.getElem?_eq_some_iff.1 h).1
theorem Blk.cell (h : Blk w g t cs) (i : Nat) : w.cell? ⟨g, i, none⟩ = cs[i]? := cell_of_row w g i cs t (0, 0) h
theorem Blk.frozen (h : Blk w g t cs) (i : Nat) : w.frozen? ⟨g, i, none⟩ = false := frozen_of_row w g i cs t h
theorem Blk.new (w : World) (t : TypeId) (cs : Array Value) {k : Nat} (hk : w.heap.size = k) : Blk (w.alloc (.cells cs t)) k t cs := by subst hk; exact heap_alloc_new w _
theorem Blk.drew (h : Blk w g t cs) : Blk w.drew g t cs := h
theorem Blk.drewN (h : Blk w g t cs) (n : Nat) : Blk (w.drewN n) g t cs := h
theorem Blk.alloc (h : Blk w g t cs) (o : Obj) : Blk (w.alloc o) g t cs := (Below.heap_alloc w o g h.lt).trans h
theorem Blk.far (h : Blk w g t cs) {p : Addr} (hp : g ≠ p.block) (u : Value) : Blk (w.setCell p u) g t cs := (Below.heap_setCell w p u g hp).trans h
theorem Blk.below {B : Nat} (h : Blk w g t cs) (hb : Below B w w') (hg : g < B) : Blk w' g t cs := (hb.block g hg).trans h
theorem Blk.grown {row : Option Nat} (h : Blk w g t cs) (hb : w.grownBy w' row) (hg : some g ≠ row) : Blk w' g t cs := (hb.block g h.lt hg).trans h
theorem Blk.set (h : Blk w g t cs) (vs : Array Value) : Blk (w.setRow g vs) g t vs := setRow_heap w g cs vs t (0, 0) h
theorem Blk.setOther (h : Blk w g t cs) {g' : Nat} (hne : g ≠ g') (vs : Array Value) : Blk (w.setRow g' vs) g t cs := (setRow_other w g' g vs hne).trans h
theorem Blk.setCell (h : Blk w g t cs) (i : Nat) (v : Value) : Blk (w.setCell ⟨g, i, none⟩ v) g t (cs.setIfInBounds i v) := heap_setCell_same w g i cs t v h
end

section
variable {P : Program}
theorem run_storeVar_row (w : World) (g : Nat) (t ty : TypeId) (cs vs : Array Value) (hg : w.heap[g]? = some (.cells cs t (0, 0))) (hs : vs.size = cs.size) (h1 : ∀ u ∈ vs.toList, u.oneCell' = true)
    (hi : (P.info? ty).map (·.size) = some vs.size) : (storeVar ty ⟨g, 0, none⟩ (.agg vs)).run P w = .ok () (w.setRow g vs) := by
  have h := run_storeCells_at P g 0 t vs.toList 0 cs w hg (by simp [hs]) h1
  cases hq : P.info? ty with
  | none => simp [hq] at hi
  | some i =>
    have hz : i.size = vs.size := by simpa [hq] using hi
    have e : (cs.toList.take (0 + 0) ++ vs.toList ++ cs.toList.drop (0 + 0 + vs.toList.length)).toArray = vs := by
      rw [List.drop_eq_nil_of_le (by simp [hs])]
      simp
    rw [e] at h
    have hvc : (Value.agg vs).cells = vs := rfl
    simp [storeVar, sizeOf, typeInfo, hq, hz, hvc, h]

/-- A struct stored whole into a variable that lies in a block of its own. -/
theorem wpList_store_row {ops : Array Oper} {rest : List Oper} {tmps : Array Value} {df : List Deferred} {w : World} {Q : Exit → Act → World → Prop} {d : Option Tmp} {ty0 : TypeId} {ps : String} {af : Array Edge}
    (p q : Tmp) (ty : TypeId) (g : Nat) (t : TypeId) (cs vs : Array Value) (hp : tmps.getD p undef = .pointer (some ⟨g, 0, none⟩)) (hq : tmps.getD q undef = .agg vs) (hg : Blk w g t cs) (hs : vs.size = cs.size) (h1 : ∀ u ∈ vs.toList, u.oneCell' = true)
    (hi : (P.info? ty).map (·.size) = some vs.size)
    (h : wpList P ops Q rest (({ tmps := tmps, defers := df } : Act).put d undef) (w.setRow g vs)) :
    wpList P ops Q ({ dst := d, op := .store ty (.tmp p) (.tmp q), type := ty0, pos := ps, after := af, guard := none } :: rest) { tmps := tmps, defers := df } w := by
  refine wpList_plain rfl fun K hK => ?_
  have hrun := run_storeVar_row (P := P) w g t ty cs vs hg hs h1 hi
  have e1 : ({ tmps := tmps, defers := df } : Act).eval (.tmp p) = .pointer (some ⟨g, 0, none⟩) := hp
  have e2 : ({ tmps := tmps, defers := df } : Act).eval (.tmp q) = .agg vs := hq
  unfold Oper.wp execOp
  simp only [e1, e2, Instr.storeAt, Instr.sureAddr, Sem.run_bind, Sem.run_pure, Result.andThen_ok, hrun]
  exact hK _ _ h

theorem results_cell_tmp_row {fn : Func} {p u : Tmp} {ty : TypeId} (h : fn.results = #[.cell p ty, .tmp u]) (tmps : Array Value) (w : World) (g : Nat) (t : TypeId) (cs : Array Value) (d : TypeDesc)
    (hp : tmps.getD p undef = .pointer (some ⟨g, 0, none⟩)) (hg : Blk w g t cs)
    (hu : P.underlying ty = some d) (hd : (match d with | .struct _ | .array _ _ => true | _ => false) = true) (hi : (P.info? ty).map (·.size) = some cs.size) :
    (results fn tmps).run P w = .ok (.tuple #[.agg cs, tmps.getD u undef]) w := by
  have hp' : tmps[p]?.getD undef = .pointer (some ⟨g, 0, none⟩) := by simpa using hp
  rw [results_cell_tmp h]
  simp [hp', asAddr, run_loadVar_row w g t ty cs (0, 0) d hg hu hd hi]

/-- 'append(out, x)', out a row of the call's own, x laid in a new block of one element. -/
theorem wpList_append1 {α : Type} {R : List Value → α → Prop} {ops : Array Oper} {rest : List Oper} {tmps : Array Value} {df : List Deferred} {w : World} {Q : Exit → Act → World → Prop} {d : Option Tmp} {ty0 : TypeId} {ps : String} {af : Array Edge}
    (p q : Tmp) (t e : TypeId) (z : Value) (size bytes base : Nat) (v : Value) (l : List α) (x : α) (g : Nat) (cs : Array Value)
    (ht : P.underlying t = some (.slice e)) (hi : (P.info? e).map (fun i => (i.zero, i.size, i.bytes)) = some (some z, size, bytes)) (hzs : z.cells.size = size) (hsz : 0 < size)
    (hp : tmps.getD p undef = v) (hown : Own e size R w base v l) (hq : tmps.getD q undef = .slice (some ⟨g, 0, none⟩) 1 1) (hg : Blk w g e cs) (hs : cs.size = size) (hR : R cs.toList x) (h1 : ∀ u ∈ cs.toList, u.oneCell' = true)
    (h63 : l.length + 1 ≤ maxLen) (hb : (l.length + 1) * bytes ≤ 140737488355328) (hbase : base ≤ w.heap.size)
    (h : ∀ v' w', Own e size R w' base v' (l ++ [x]) → w.grownBy w' v.ownBlock → wpList P ops Q rest (({ tmps := tmps, defers := df } : Act).put d v') w') :
    wpList P ops Q ({ dst := d, op := .call { callee := .builtin .append, args := #[.tmp p, .tmp q], argTypes := #[t, t] }, type := ty0, pos := ps, after := af, guard := none } :: rest) { tmps := tmps, defers := df } w := by
  obtain ⟨i, hi0, hz0, hz1, hz2⟩ := info_parts hi
  obtain ⟨xs, hxs, hRx⟩ := hown
  refine wpList_append_own w rfl (.tmp p) (.tmp q) t rfl base e i z size bytes ht hi0 hz0 hz1 hz2 hzs hsz v l.length xs hp hxs ⟨g, 0, none⟩ 1 1 cs.toList hq (by simp [hs]) ?_ h1 h63 hb hbase ?_
  · intro j u hu
    rw [Addr.add_lit, Nat.zero_add, hg.cell]
    simpa using hu
  · intro v' w' hown' hgr _
    exact h v' w' (Own.snoc (x := x) hown' hxs.1 (by simp [hs]) hRx hR) hgr
end
theorem Own.base {α : Type} {e : TypeId} {size : Nat} {R : List Value → α → Prop} {w : World} {base base' : Nat} {v : Value} {l : List α} (h : Own e size R w base v l) (hb : base' ≤ base) : Own e size R w base' v l := by
  obtain ⟨xs, ⟨h1, h2⟩, h3⟩ := h
  refine ⟨xs, ⟨h1, ?_⟩, h3⟩
  rcases h2 with h2 | ⟨g, cap, cur, hv, hg, r⟩
  · exact .inl h2
  · exact .inr ⟨g, cap, cur, hv, by omega, r⟩
theorem Own.len {α : Type} {e : TypeId} {size : Nat} {R : List Value → α → Prop} {w : World} {base : Nat} {v : Value} {l : List α} (h : Own e size R w base v l) : ∃ A cap, v = .slice A l.length cap := by
  obtain ⟨xs, ⟨h1, h2⟩, h3⟩ := h
  rcases h2 with ⟨h2, h4⟩ | ⟨g, cap, cur, hv, hg, r⟩
  · exact ⟨none, 0, by rw [h2, h4]⟩
  · exact ⟨_, _, hv⟩
theorem Own.block {α : Type} {e : TypeId} {size : Nat} {R : List Value → α → Prop} {w : World} {base : Nat} {v : Value} {l : List α} (h : Own e size R w base v l) : ∀ k, v.ownBlock = some k → base ≤ k ∧ k < w.heap.size := by
  obtain ⟨xs, h1, _⟩ := h
  exact h1.lt
theorem below_own {α : Type} {e : TypeId} {size : Nat} {R : List Value → α → Prop} {w w1 w' : World} {base : Nat} {v : Value} {l : List α} (h : Below base w w1) (ho : Own e size R w1 base v l) (hg : w1.grownBy w' v.ownBlock) (hb : base ≤ w1.heap.size) : Below base w w' :=
  h.grown hg hb fun k hk => (ho.block k hk).1

theorem SlAt.flat {α : Type} {size : Nat} {R : List Value → α → Prop} {w : World} {B : Nat} {A : Option Addr} {l : List α} (h : SlAt size R w B A l) :
    ∃ news : List Value, news.length = l.length * size ∧ (∀ (i : Nat) (x : α), l[i]? = some x → R ((news.drop (i * size)).take size) x) ∧
      (∀ b o, A = some ⟨b, o, none⟩ → ∀ (j : Nat) (u : Value), news[j]? = some u → w.cell? ⟨b, o + j, none⟩ = some u) ∧ ∀ u ∈ news, ∃ (i : Nat) (x : α) (cs : List Value), l[i]? = some x ∧ R cs x ∧ u ∈ cs := by
  have key : ∀ n, n ≤ l.length → ∃ news : List Value, news.length = n * size ∧ (∀ (i : Nat) (x : α), i < n → l[i]? = some x → R ((news.drop (i * size)).take size) x) ∧
      (∀ b o, A = some ⟨b, o, none⟩ → ∀ (j : Nat) (u : Value), news[j]? = some u → w.cell? ⟨b, o + j, none⟩ = some u) ∧ ∀ u ∈ news, ∃ (i : Nat) (x : α) (cs : List Value), l[i]? = some x ∧ R cs x ∧ u ∈ cs := by
    intro n
    induction n with
    | zero => intro _; exact ⟨[], by simp, fun i x hi => by omega, fun b o _ j u hu => by simp at hu, fun u hu => by simp at hu⟩
    | succ n ih =>
      intro hn
      obtain ⟨news, h1, h2, h3, h4⟩ := ih (by omega)
      obtain ⟨b, o, x, cs, hA, hb, hx, hcs, hR, hc⟩ := h.at_ (show n < l.length by omega)
      refine ⟨news ++ cs, by rw [List.length_append, h1, hcs, Nat.add_mul, Nat.one_mul], ?_, ?_, ?_⟩
      · intro i y hi hy
        rcases Nat.lt_or_ge i n with hlt | hge
        · rw [take_drop_append h1 hlt]; exact h2 i y hlt hy
        · obtain rfl : i = n := by omega
          rw [take_drop_append_last h1 hcs]
          rw [hx] at hy
          injection hy with hy
          exact hy ▸ hR
      · intro b' o' hA' j u hu
        rw [hA] at hA'
        injection hA' with hA'
        injection hA' with e1 e2
        subst e1 e2
        rcases Nat.lt_or_ge j news.length with hlt | hge
        · exact h3 b o hA j u (by rw [List.getElem?_append_left hlt] at hu; exact hu)
        · rw [List.getElem?_append_right hge] at hu
          have := hc _ u hu
          rw [h1] at this hge
          rw [show o + j = o + n * size + (j - n * size) by omega]
          exact this
      · intro u hu
        rcases List.mem_append.1 hu with hu | hu
        · exact h4 u hu
        · exact ⟨n, x, cs, hx, hR, hu⟩
  obtain ⟨news, h1, h2, h3, h4⟩ := key l.length (Nat.le_refl _)
  exact ⟨news, h1, fun i x hi => h2 i x (List.getElem?_eq_some_iff.1 hi).1 hi, h3, h4⟩

section
variable {P : Program}
theorem run_append_nilsrc (w : World) (base : Nat) (t ty e : TypeId) (i : TypeInfo) (size : Nat) (ht : P.underlying t = some (.slice e)) (hi : P.info? e = some i)
    (v : Value) (n : Nat) (xs : List Value) (hown : w.ownsRow base e size v n xs) (c : Nat) : (Builtin.append_ #[t, t] ty #[v, .slice none 0 c]).run P w = .ok v w := by
  rcases hown.2 with ⟨rfl, rfl⟩ | ⟨g, cap, cur, rfl, _, _, hnc, _⟩
  · simp [Builtin.append_, run_underlying ht, sizeOf, typeInfo, hi, Builtin.lenOf, Builtin.firstCells]
  · simp [Builtin.append_, run_underlying ht, sizeOf, typeInfo, hi, Builtin.lenOf, Builtin.firstCells, hnc, storeCells]

/-- 'append(out, xs...)', out a row of the call's own, xs any slice that reads as a list. -/
theorem wpList_appendSl {α : Type} {R : List Value → α → Prop} {ops : Array Oper} {rest : List Oper} {tmps : Array Value} {df : List Deferred} {w : World} {Q : Exit → Act → World → Prop} {d : Option Tmp} {ty0 : TypeId} {ps : String} {af : Array Edge}
    (p q : Tmp) (t e : TypeId) (z : Value) (size bytes base : Nat) (v v2 : Value) (l m : List α) (B : Nat)
    (ht : P.underlying t = some (.slice e)) (hi : (P.info? e).map (fun i => (i.zero, i.size, i.bytes)) = some (some z, size, bytes)) (hzs : z.cells.size = size) (hsz : 0 < size)
    (hp : tmps.getD p undef = v) (hown : Own e size R w base v l) (hq : tmps.getD q undef = v2) (hs : Sl size R w B v2 m) (h1 : ∀ cs x, R cs x → ∀ u ∈ cs, u.oneCell' = true)
    (h63 : l.length + m.length ≤ maxLen) (hb : (l.length + m.length) * bytes ≤ 140737488355328) (hbase : base ≤ w.heap.size)
    (h : ∀ v' w', Own e size R w' base v' (l ++ m) → w.grownBy w' v.ownBlock → (v'.ownBlock = v.ownBlock ∨ v'.ownBlock = some w.heap.size) → wpList P ops Q rest (({ tmps := tmps, defers := df } : Act).put d v') w') :
    wpList P ops Q ({ dst := d, op := .call { callee := .builtin .append, args := #[.tmp p, .tmp q], argTypes := #[t, t] }, type := ty0, pos := ps, after := af, guard := none } :: rest) { tmps := tmps, defers := df } w := by
  obtain ⟨i, hi0, hz0, hz1, hz2⟩ := info_parts hi
  obtain ⟨xs, hxs, hRx⟩ := hown
  obtain ⟨A, cap, rfl, hcap, hat⟩ := hs
  obtain ⟨news, hn1, hn2, hn3, hn4⟩ := hat.flat
  have run : ∃ v' w', (Builtin.append_ #[t, t] ty0 #[v, .slice A m.length cap]).run P w = .ok v' w' ∧ w'.ownsRow base e size v' (l.length + m.length) (xs ++ news) ∧ w.grownBy w' v.ownBlock ∧ (v'.ownBlock = v.ownBlock ∨ v'.ownBlock = some w.heap.size) := by
    have hnil : m = [] → A = none → ∃ v' w', (Builtin.append_ #[t, t] ty0 #[v, .slice A m.length cap]).run P w = .ok v' w' ∧ w'.ownsRow base e size v' (l.length + m.length) (xs ++ news) ∧ w.grownBy w' v.ownBlock ∧ (v'.ownBlock = v.ownBlock ∨ v'.ownBlock = some w.heap.size) := by
      intro hm hA
      subst hm hA
      have hnn : news = [] := List.eq_nil_of_length_eq_zero (by simpa using hn1)
      subst hnn
      exact ⟨v, w, run_append_nilsrc w base t ty0 e i size ht hi0 v _ xs hxs cap, by simpa using hxs, World.grownBy.refl w _, .inl rfl⟩
    cases A with
    | none =>
      refine hnil ?_ rfl
      cases m with
      | nil => rfl
      | cons x m =>
        obtain ⟨b, o, hA, _⟩ := hat 0 x rfl
        cases hA
    | some a =>
      have hcell : ∀ j u, news[j]? = some u → w.cell? (a.add j) = some u := by
        intro j u hu
        cases m with
        | nil =>
          have hnn : news = [] := List.eq_nil_of_length_eq_zero (by simpa using hn1)
          subst hnn
          simp at hu
        | cons x m =>
          obtain ⟨b, o, hA, _⟩ := hat 0 x rfl
          injection hA with hA
          subst hA
          rw [Addr.add_lit]
          exact hn3 b o rfl j u hu
      obtain ⟨v', w', hrun, h2, h3, _, h5⟩ := run_append_own_at (P := P) w base t ty0 e i z size bytes ht hi0 hz0 hz1 hz2 hzs hsz v l.length xs hxs a m.length cap news hn1 hcell (fun u hu => by
        obtain ⟨_, x, cs, _, hR, hm⟩ := hn4 u hu
        exact h1 cs x hR u hm) h63 hb hbase
      exact ⟨v', w', hrun, h2, h3, h5⟩
  obtain ⟨v', w', hrun, h2, h3, h4⟩ := run
  refine wpList_plain rfl fun K hK => ?_
  have e1 : ({ tmps := tmps, defers := df } : Act).eval (.tmp p) = v := hp
  have e2 : ({ tmps := tmps, defers := df } : Act).eval (.tmp q) = .slice A m.length cap := hq
  unfold Oper.wp execOp
  simp only [resolve, invoke, builtin, Sem.run_bind, Sem.run_pure, Result.andThen_ok, List.map_toArray, List.map_cons, List.map_nil, e1, e2, hrun]
  refine hK _ _ (h v' w' ⟨xs ++ news, by simpa using h2, ?_⟩ h3 h4)
  intro k x hk
  rcases Nat.lt_or_ge k l.length with hlt | hge
  · rw [take_drop_append hxs.1 hlt]
    exact hRx k x (by rw [← hk, List.getElem?_append_left hlt])
  · rw [List.getElem?_append_right hge] at hk
    have e3 : (xs ++ news).drop (k * size) = news.drop ((k - l.length) * size) := by
      rw [List.drop_append, List.drop_eq_nil_of_le (by rw [hxs.1]; exact Nat.mul_le_mul_right _ hge), hxs.1, List.nil_append, Nat.sub_mul]
    rw [e3]
    exact hn2 _ x hk
end
end Go.Proofs.YtgekcnpfflhpkaaGreatDoor
