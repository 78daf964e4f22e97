/-
  The texts that the claim wants, one behind the other: part 13.
-/
import Derived.Test.YtgidajjjpeboeaaGreatDoorS12
set_option linter.unusedSimpArgs false
set_option linter.unusedVariables false
namespace Go.Proofs.YtgidajjjpeboeaaGreatDoor
open Go.RowKit Go.MapKept
open Go.ChangeMaps (setBlock)
section
variable {P : Program} {mu : List Nat} {E : Env} {G G' : Gho} {fr fr' : Fr} {st st' : St} {a a0 : Act} {w w0 : World} {Q : Exit → Fr → St → Prop} {k : List AItem}
def itA (r : Nat) : AV := .raw (.pointer (some ⟨r, 0, none⟩))
theorem raw_rel {σ : Sg} {v u : Value} (h : Rel1 σ v (.raw u)) : v = u := by cases h; rfl
theorem codeAC_seq {c : Code} {x y : ACode} (h : codeAC P mu c = some (.seq x y)) : ∃ a b, c = .seq a b ∧ codeAC P mu a = some x ∧ codeAC P mu b = some y := by
 cases c with
 | seq a b =>
  simp only [codeAC] at h
  split at h
  ·rename_i a' b' hx hy
   cases h
   exact ⟨a, b, rfl, hx, hy⟩
  ·cases h
 | region id ops dr => simp only [codeAC] at h; split at h; · (repeat' (split at h)) <;> cases h
                       ·cases h
 | cond x t e => simp only [codeAC] at h; split at h <;> cases h
 | block id b => simp only [codeAC] at h; split at h <;> cases h
 | loop b => simp only [codeAC] at h; split at h <;> cases h
 | _ => cases h
theorem codeAC_block {c : Code} {id : Nat} {x : ACode} (h : codeAC P mu c = some (.block id x)) : ∃ b, c = .block id b ∧ codeAC P mu b = some x := by
 cases c with
 | block id' b =>
  simp only [codeAC] at h
  split at h
  ·rename_i b' hx
   cases h
   exact ⟨b, rfl, hx⟩
  ·cases h
 | region id ops dr => simp only [codeAC] at h; split at h; · (repeat' (split at h)) <;> cases h
                       ·cases h
 | cond x t e => simp only [codeAC] at h; split at h <;> cases h
 | seq x y => simp only [codeAC] at h; split at h <;> cases h
 | loop b => simp only [codeAC] at h; split at h <;> cases h
 | _ => cases h
theorem codeAC_loop {c : Code} {x : ACode} (h : codeAC P mu c = some (.loop x)) : ∃ b, c = .loop b ∧ codeAC P mu b = some x := by
 cases c with
 | loop b =>
  simp only [codeAC] at h
  split at h
  ·rename_i b' hx
   cases h
   exact ⟨b, rfl, hx⟩
  ·cases h
 | region id ops dr => simp only [codeAC] at h; split at h; · (repeat' (split at h)) <;> cases h
                       ·cases h
 | cond x t e => simp only [codeAC] at h; split at h <;> cases h
 | seq x y => simp only [codeAC] at h; split at h <;> cases h
 | block id b => simp only [codeAC] at h; split at h <;> cases h
 | _ => cases h
theorem codeAC_reg {c : Code} {l : List GI} (h : codeAC P mu c = some (.reg l)) (hi : l.any GI.iter = true) : ∃ id ops, c = .region id ops false ∧ opsGI P mu ops 0 ops.toList = some l := by
 cases c with
 | region id ops dr =>
  simp only [codeAC] at h
  split at h
  ·rename_i l' hl
   split at h
   ·rename_i hlex
    split at h
    ·cases h
    cases h
    cases dr with
    | false => exact ⟨id, ops, rfl, hl⟩
    | true =>
     exfalso
     simp only [Bool.not_true, Bool.false_or, Bool.and_eq_true] at hlex
     have h2 := hlex.2
     unfold noIter at h2
     obtain ⟨x, hx, hx2⟩ := List.any_eq_true.1 hi
     have := List.all_eq_true.1 h2 x hx
     rw [hx2] at this
     cases this
   ·split at h <;> cases h
  ·cases h
 | cond x t e => simp only [codeAC] at h; split at h <;> cases h
 | seq x y => simp only [codeAC] at h; split at h <;> cases h
 | block id b => simp only [codeAC] at h; split at h <;> cases h
 | loop b => simp only [codeAC] at h; split at h <;> cases h
 | _ => cases h
theorem rng_of {gs : Bool} {o : Oper} {t : TypeId} {d : Nat} {x : Opd} (h : opAI P mu gs o = some (.rng t d x)) : ∃ xo, o.op = .range t xo ∧ o.dst = some d ∧ opdOf P t xo = some x ∧ ∃ k e, P.underlying t = some (.map k e) := by
 unfold opAI at h
 (repeat' split at h) <;> first
  | (cases h; done)
  | (cases h; exact ⟨_, by assumption, by assumption, by assumption, _, _, by assumption⟩)
theorem nxt_of {gs : Bool} {o : Oper} {d : Nat} {x : Opd} (h : opAI P mu gs o = some (.nxt d x)) : ∃ xo, o.op = .next xo false ∧ o.dst = some d ∧ opdOf P 0 xo = some x := by
 unfold opAI at h
 (repeat' split at h) <;> first
  | (cases h; done)
  | (cases h; exact ⟨_, by assumption, by assumption, by assumption⟩)
theorem ent_of {gs : Bool} {o : Oper} {d : Nat} {x : Opd} (h : opAI P mu gs o = some (.ent d x)) : ∃ xo, o.op = .entry xo ∧ o.dst = some d ∧ opdOf P 0 xo = some x := by
 unfold opAI at h
 (repeat' split at h) <;> first
  | (cases h; done)
  | (cases h; exact ⟨_, by assumption, by assumption, by assumption⟩)
theorem seq_pre {Q : Exit → Act → World → Prop} {ops : Array Oper} {gl : List GI} (hat : At P mu ops gl) (hd : dstsLt E.n gl = true) {tail : List Nat} (hQ : ∀ G a w, Conc E G fr' st' a w → wpOps P ops Q tail a w) :
  ∀ {l : List (GI × Option RS)} {k : Nat} {fr : Fr} {st : St} {p : Prop} {G : Gho} {a : Act} {w : World}, (∀ j x, (l.map (·.1))[j]? = some x → gl[k + j]? = some x) → k + l.length ≤ ops.size → asteps P l fr st = some (fr', st', p) → p → Conc E G fr st a w →
   wpOps P ops Q (List.range' k l.length ++ tail) a w
 | [], k, fr, st, p, G, a, w, _, _, hs, _, h => by cases hs; exact hQ _ _ _ h
 | (x, rs) :: l, k, fr, st, p, G, a, w, hl, hlen, hs, hp, h => by
  unfold asteps at hs
  split at hs
  ·rename_i f1 s1 p1 h1
   split at hs
   ·rename_i f2 s2 q2 h2
    cases hs
    have hx : gl[k]? = some x := by simpa using hl 0 x rfl
    have hk : k < ops.size := by simp at hlen; omega
    have ho : ops[k]? = some ops[k] := Array.getElem?_eq_getElem hk
    rw [List.length_cons, List.range'_succ, List.cons_append]
    simp only [wpOps, ho]
    have hg := gsim (Q := Q) (K := wpOps P ops Q (List.range' (k + 1) l.length ++ tail)) h hat ho hx h1 hp.1 (dstsLt_at hd hx) (fun G' a' w' hc => seq_pre hat hd hQ (fun j y hy => by
     have := hl (j + 1) y (by simpa using hy)
     rw [← this]
     congr 1
     omega) (by simp at hlen; omega) h2 hp.2 hc)
    split at hg
    ·rename_i hw; rw [if_pos hw]; exact .inl hg
    ·rename_i hw; rw [if_neg hw]; exact hg
   ·cases hs
  ·cases hs
theorem wpOps_one {Q : Exit → Act → World → Prop} {ops : Array Oper} {gl : List GI} (hat : At P mu ops gl) {j : Nat} {i : AI} (hx : gl[j]? = some ⟨none, i⟩) {rest : List Nat} (h : ∀ gs o, opAI P mu gs o = some i → o.wp P a w (wpOps P ops Q rest) Q) : wpOps P ops Q (j :: rest) a w := by
 have hj : j < ops.size := by rw [← hat.1]; exact (List.getElem?_eq_some_iff.1 hx).1
 have ho : ops[j]? = some ops[j] := Array.getElem?_eq_getElem hj
 obtain ⟨h1, h2, h3⟩ := hat.2 j _ _ ho hx
 simp only [wpOps, ho]
 rw [ctx_none (i := i) (fr := fun _ => none) h1 rfl, if_pos rfl]
 exact .inl (h _ _ h2)
theorem op_value {Q : Exit → Act → World → Prop} {o : Oper} {v : Value} {w' : World} {K : Act → World → Prop} (hrun : (execOp a.eval o).run P w = .ok (.value v) w') {d : Nat} (hd : o.dst = some d) (h : K (a.put (some d) v) w') : o.wp P a w K Q := by
 unfold Oper.wp
 rw [hrun, Oper.upon_value, hd]
 exact h
def lastRng : List GI → Option (List GI × TypeId × Nat × Opd)
 | [] => none
 | [⟨none, .rng t d x⟩] => some ([], t, d, x)
 | g :: l => match lastRng l with
  | some (p, r) => some (g :: p, r)
  | none => none
theorem lastRng_spec : ∀ {l p : List GI} {t : TypeId} {d : Nat} {x : Opd}, lastRng l = some (p, t, d, x) → l = p ++ [⟨none, .rng t d x⟩]
 | [], _, _, _, _, h => by cases h
 | g :: l, p, t, d, x, h => by
  unfold lastRng at h
  split at h
  ·cases h
  ·rename_i e; cases e; cases h; rfl
  ·rename_i e
   cases e
   split at h
   ·rename_i hl
    cases h
    rw [lastRng_spec hl]
    rfl
   ·cases h
def EntAt (P : Program) (E : Env) (r : Nat) (row : MRow) : Prop := ∀ G fr st a w, Conc E G fr st a w → ∃ kv vv, (Instr.entry (.pointer (some ⟨r, 0, none⟩))).run P w = .ok (.tuple #[kv, vv]) w ∧ RelP G.σ kv (valA row.1) ∧ RelP G.σ vv (valA row.2)
theorem AK.nil (h : Q .normal fr st) : AK P E Q [] fr st := h
theorem AK.exitQ {id : Nat} (h : (KS P E Q k).2 id fr st) : AK P E Q (.c (.exit id) :: k) fr st := by
 intro hd mu c G ac w hc _ hC
 cases c with
 | exit id' =>
  cases hc
  exact wp_exit ⟨G, fr, st, hC, h⟩
 | region id ops dr => simp only [codeAC] at hc; split at hc; · (repeat' (split at hc)) <;> cases hc
                       ·cases hc
 | cond x t e => simp only [codeAC] at hc; split at hc <;> cases hc
 | seq x y => simp only [codeAC] at hc; split at hc <;> cases hc
 | block id b => simp only [codeAC] at hc; split at hc <;> cases hc
 | loop b => simp only [codeAC] at hc; split at hc <;> cases hc
 | _ => cases hc
theorem AK.ent {r d : Nat} {x : Opd} {post : List GI} {row : MRow} {rs rs' : List RS} {p : Prop} (hE : EntAt P E r row) (hx : x.ev fr = some (itA r)) (hs : arun P post rs (put1 fr d (.tup [valA row.1, valA row.2])) st = some (rs', fr', st', p)) (hp : p) (h : AK P E Q k fr' st') : AK P E Q (.c (.reg (⟨none, .ent d x⟩ :: post)) :: k) fr st := by
 intro hd mu c G ac w hc _ hC
 obtain ⟨id, ops, rfl, hops⟩ := codeAC_reg hc rfl
 have hat := at_of hops
 obtain ⟨S, hS, q, hst, hpq⟩ := arun_asteps hs
 have hSl : ops.size = S.length + 1 := by rw [← hat.1, ← hS]; simp
 have hdd : dstsLt E.n (⟨none, .ent d x⟩ :: post) = true := hd
 refine wp_region ?_
 rw [List.range_eq_range', hSl, List.range'_succ]
 refine wpOps_one hat (j := 0) rfl fun gs o ho => ?_
 obtain ⟨xo, h1, h2, h3⟩ := ent_of ho
 obtain ⟨kv, vv, hrun, r1, r2⟩ := hE G fr st ac w hC
 have hv : ac.eval xo = .pointer (some ⟨r, 0, none⟩) := by
  exact raw_rel (hC.ev h3 hx).1
 refine op_value (v := .tuple #[kv, vv]) (w' := w) ?_ h2 ?_
 ·unfold execOp
  rw [h1]
  simp only [hv, Sem.run_bind, hrun, Result.andThen_ok, Sem.run_pure]
 have hdn : d < E.n := dstsLt_at hdd (k := 0) rfl d rfl
 have hC2 := hC.put (v := .tuple #[kv, vv]) (x := .tup [valA row.1, valA row.2]) hdn ⟨[kv, vv], rfl, rfl, fun j u y hu hy => by
  rcases j with _ | _ | j
  ·simp at hu hy; subst hu hy; exact .of r1
  ·simp at hu hy; subst hu hy; exact .of r2
  ·simp at hu⟩
 exact seq_run hat hdd (fun G' a' w' hc => ⟨G', fr', st', hc, h⟩) (l := S) (k := 1) (fun j => by rw [hS, Nat.add_comm, List.getElem?_cons_succ]) (by omega) hst (hpq hp) hC2
theorem set_other {w : World} {r b : Nat} {o : Obj} (h : b ≠ r) : (setBlock w r o).heap[b]? = w.heap[b]? := by
 show (w.heap.setIfInBounds r o)[b]? = _
 rw [Array.getElem?_setIfInBounds_ne (fun e => h e.symm)]
theorem set_same {w : World} {r : Nat} {o o' : Obj} (h : w.heap[r]? = some o') : (setBlock w r o).heap[r]? = some o := by
 show (w.heap.setIfInBounds r o)[r]? = _
 rw [Array.getElem?_setIfInBounds_self_of_lt (Array.getElem?_eq_some_iff.1 h).1]
theorem HeapAt.noIter {g id : Nat} {t : TypeId} {vs : Array Value} (h : HeapAt w g id t vs) {r : Nat} {m : Option Nat} {s : Nat} {sn : Array Nat} {c : Nat} (hr : w.heap[r]? = some (.mapIter m s sn c)) : g ≠ r := by
 rintro rfl
 obtain ⟨o, h1, h2⟩ := h
 rw [hr] at h1
 cases h1
 unfold ObjAt at h2
 split at h2
 ·cases h2
 ·obtain ⟨_, _, h2, _⟩ := h2; cases h2
theorem Conc.setIter (h : Conc E G fr st a w) {r : Nat} {m : Option Nat} {s : Nat} {sn : Array Nat} {c : Nat} (hr : w.heap[r]? = some (.mapIter m s sn c)) (ho : E.own r) (m' : Option Nat) (s' : Nat) (sn' : Array Nat) (c' : Nat) :
  Conc E G fr st a (setBlock w r (.mapIter m' s' sn' c')) := by
 have hsz : (setBlock w r (.mapIter m' s' sn' c')).heap.size = w.heap.size := by
  show (w.heap.setIfInBounds _ _).size = _
  simp
 have hcell : ∀ b o v, w.cell? ⟨b, o, none⟩ = some v → b ≠ r := by
  rintro b o v hv rfl
  unfold World.cell? at hv
  simp only [hr] at hv
  cases hv
 exact
  { h with
    hold := fun b o v hv => by
     have h1 := h.hold b o v hv
     exact (World.cell?_of_block (w := w) (a := ⟨b, o, none⟩) (set_other (hcell b o v h1))).trans h1
    below := h.below.trans (K' := fun b => b = r) ⟨rfl, rfl, rfl, by rw [hsz]; exact Nat.le_refl _, fun k _ hn => set_other hn⟩ (fun x e => e ▸ ho.symm)
    box := fun id cs fz hs => by
     obtain ⟨g, k1, k2, t, vs, k3, k4⟩ := h.box id cs fz hs
     exact ⟨g, k1, k2, t, vs, k3.of (set_other (k3.noIter hr)), k4⟩
    row := fun s r' hs => by
     obtain ⟨⟨k1, e, cur, k3, k4⟩, k5⟩ := h.row s r' hs
     exact ⟨⟨k1, e, cur, by rw [set_other (fun e => by rw [e, hr] at k3; cases k3)]; exact k3, k4⟩, k5⟩
    phi := fun k x hk => by
     obtain ⟨⟨k1, k2⟩, k3, k4⟩ := h.phi k x hk
     refine ⟨⟨k1, k2.on (.refl _) (set_other fun e => ?_) k2.free⟩, k3, k4⟩
     obtain ⟨_, _, q1, _⟩ := k2
     rw [e, hr] at q1
     cases q1 }
theorem leftOf_nil (es : Array MapEntry) : leftOf es #[] = es := by
 unfold leftOf
 exact Array.filter_eq_self.2 fun x _ => by simp
theorem leftOf_push {es : Array MapEntry} {seen : Array Nat} (hn : (es.toList.map (·.born)).Nodup) {j : Nat} {e : MapEntry} (hj : (leftOf es seen).toList[j]? = some e) : (leftOf es (seen.push e.born)).toList = (leftOf es seen).toList.eraseIdx j := by
 have hsub : ((leftOf es seen).toList.map (·.born)).Nodup := by
  unfold leftOf
  rw [Array.toList_filter]
  exact hn.sublist (List.filter_sublist.map _)
 rw [eraseIdx_filter (p := fun y => !(y.born == e.born)) hj (by simp) fun i y hy hne => ?_]
 ·unfold leftOf
  rw [Array.toList_filter, Array.toList_filter, List.filter_filter]
  congr 1
  funext y
  by_cases hb : y.born = e.born <;> simp [hb]
 ·rw [Bool.not_eq_true', beq_eq_false_iff_ne]
  intro eb
  refine hne ?_
  have h1 : ((leftOf es seen).toList.map (·.born))[i]? = some e.born := by rw [List.getElem?_map, hy]; simp [eb]
  have h2 : ((leftOf es seen).toList.map (·.born))[j]? = some e.born := by rw [List.getElem?_map, hj]; rfl
  exact (List.getElem?_inj (List.getElem?_eq_some_iff.1 h1).1 hsub).1 (h1.trans h2.symm)
theorem list_split {α : Type} : ∀ {l : List α} {j : Nat} {x : α}, l[j]? = some x → l = l.take j ++ x :: l.drop (j + 1) ∧ l.eraseIdx j = l.take j ++ l.drop (j + 1)
 | y :: l, 0, x, h => by simp at h; subst h; simp
 | y :: l, j + 1, x, h => by
  obtain ⟨h1, h2⟩ := list_split (l := l) (j := j) (x := x) (by simpa using h)
  simp only [List.take_succ_cons, List.drop_succ_cons, List.eraseIdx_cons_succ, List.cons_append]
  rw [← h1, h2]
  exact ⟨rfl, rfl⟩
def MQ (P : Program) (E : Env) (Q : Exit → Fr → St → Prop) (k : List AItem) (bid : Nat) (H : List (Nat × List AV)) {ι : Type} (J : ι → Fr × St) (I : ι → Prop) (L : ι → List MRow) (nx : Option (List MRow)) : Exit → Fr → St → Prop := fun e f s => match e with
 | .normal => ∀ E2 G a w, Conc E2 G f s a w → ∃ i', I i' ∧ nx = some (L i') ∧ ∃ G', Conc E2 G' (J i').1 (J i').2 a w
 | .exit id => if id = bid then AK P E Q k (clrF (domS H) f) (backB H s) else (KS P E Q k).2 id (clrF (domS H) f) (backB H s)
 | e => Q e (clrF (domS H) f) (backB H s)
theorem MQ_exit {P : Program} {E : Env} {Q : Exit → Fr → St → Prop} {k : List AItem} {bid : Nat} {H : List (Nat × List AV)} {ι : Type} {J : ι → Fr × St} {I : ι → Prop} {L : ι → List MRow} {nx : Option (List MRow)} {f : Fr} {s : St} (h : AK P E Q k (clrF (domS H) f) (backB H s)) : MQ P E Q k bid H J I L nx (.exit bid) f s := by
 unfold MQ
 simp only
 rw [if_pos trivial]
 exact h
theorem AK.exitMQ {P : Program} {E E2 : Env} {Q : Exit → Fr → St → Prop} {k : List AItem} {bid : Nat} {H : List (Nat × List AV)} {ι : Type} {J : ι → Fr × St} {I : ι → Prop} {L : ι → List MRow} {nx : Option (List MRow)} {f : Fr} {s : St} {a : ACode} (h : AK P E Q k (clrF (domS H) f) (backB H s)) : AK P E2 (MQ P E Q k bid H J I L nx) [.c (.exit bid), .c a] f s :=
 AK.exitQ (k := [.c a]) (show MQ P E Q k bid H J I L nx (.exit bid) f s from MQ_exit h)
theorem MQ_open {P : Program} {E : Env} {Q : Exit → Fr → St → Prop} {k : List AItem} {bid : Nat} {H : List (Nat × List AV)} {ι : Type} {J : ι → Fr × St} {I : ι → Prop} {L : ι → List MRow} {nx : Option (List MRow)} {f : Fr} {st : St} (s d id : Nat) {esz : Nat} {rows : List (List AV)} (hd : f s = some (.frs d esz rows)) (hid : 1000000 ≤ id) (hfree : st.box id = none)
  (h : ∀ cap m, rows.length ≤ cap → (rows.flatten ++ List.replicate m AV.top).length = cap * esz → ∃ i', I i' ∧ nx = some (L i') ∧ Weak (opnF d id cap f) (opnB d id cap (rows.flatten ++ List.replicate m AV.top) st) (J i').1 (J i').2) (hid2 : id < 2000000 := by omega) (hmp : isMp id = false := by rfl) :
  MQ P E Q k bid H J I L nx .normal f st := fun E2 G a w hC => by
 obtain ⟨cap, m, h1, h2, G', hC'⟩ := hC.open s d id hd hid hfree hid2 hmp
 obtain ⟨i', hi, hL, hw⟩ := h cap m h1 h2
 exact ⟨i', hi, hL, hw E2 G' a w hC'⟩
def LQ {ι : Type} (J : ι → Fr × St) (I : ι → Prop) (μ : ι → Nat) (n : Nat) : Fr → St → Prop := fun f s => ∀ E2 G a w, Conc E2 G f s a w → ∃ i', I i' ∧ μ i' < n ∧ ∃ G', Conc E2 G' (J i').1 (J i').2 a w
theorem LQ_weak {ι : Type} {J : ι → Fr × St} {I : ι → Prop} {μ : ι → Nat} {n : Nat} {f : Fr} {s : St} (i' : ι) (hi : I i') (hμ : μ i' < n) (hw : Weak f s (J i').1 (J i').2) : LQ J I μ n f s := fun E2 G a w hC => ⟨i', hi, hμ, hw E2 G a w hC⟩
theorem LQ_open {ι : Type} {J : ι → Fr × St} {I : ι → Prop} {μ : ι → Nat} {n : Nat} {f : Fr} {st : St} (s d id : Nat) {esz : Nat} {rows : List (List AV)} (hd : f s = some (.frs d esz rows)) (hid : 1000000 ≤ id) (hfree : st.box id = none)
  (h : ∀ cap m, rows.length ≤ cap → (rows.flatten ++ List.replicate m AV.top).length = cap * esz → ∃ i', I i' ∧ μ i' < n ∧ Weak (opnF d id cap f) (opnB d id cap (rows.flatten ++ List.replicate m AV.top) st) (J i').1 (J i').2) (hid2 : id < 2000000 := by omega) (hmp : isMp id = false := by rfl) : LQ J I μ n f st := fun E2 G a w hC => by
 obtain ⟨cap, m, h1, h2, G', hC'⟩ := hC.open s d id hd hid hfree hid2 hmp
 obtain ⟨i', hi, hL, hw⟩ := h cap m h1 h2
 exact ⟨i', hi, hL, hw E2 G' a w hC'⟩
theorem AK.loopG {P : Program} {E : Env} {Q : Exit → Fr → St → Prop} {k : List AItem} {fr : Fr} {st : St} {ι : Type} (J : ι → Fr × St) (I : ι → Prop) (μ : ι → Nat) {b : ACode} (i0 : ι) (hI : I i0) (h0 : Weak fr st (J i0).1 (J i0).2)
  (h : ∀ i, I i → AK P E Q (.c b :: .lp (LQ J I μ (μ i)) :: k) (J i).1 (J i).2) : AK P E Q (.c (.loop b) :: k) fr st := by
 intro hd mu c G ac w hc _ hC
 have hd' : dstsOk E.n b = true := hd
 obtain ⟨x, rfl, hx⟩ := codeAC_loop hc
 obtain ⟨G', hC'⟩ := h0 E G ac w hC
 refine wp_loop (fun a w => ∃ i G, I i ∧ Conc E G (J i).1 (J i).2 a w) (fun a w => leastN fun m => ∃ i G, I i ∧ Conc E G (J i).1 (J i).2 a w ∧ μ i = m) ⟨i0, G', hI, hC'⟩ ?_
 intro a1 w1 ⟨i1, G1, hI1, hC1⟩
 obtain ⟨⟨i2, G2, hI2, hC2, hμ⟩, hmin⟩ := leastN_spec (S := fun m => ∃ i G, I i ∧ Conc E G (J i).1 (J i).2 a1 w1 ∧ μ i = m) ⟨i1, G1, hI1, hC1, rfl⟩
 refine wp_mono (h i2 hI2 hd' mu x G2 a1 w1 hx hd' hC2) fun e a2 w2 ⟨G3, f, s, hC3, hQ⟩ => ?_
 cases e with
 | normal =>
  obtain ⟨i3, hI3, hlt, G4, hC4⟩ := hQ E G3 a2 w2 hC3
  refine ⟨⟨i3, G4, hI3, hC4⟩, ?_⟩
  have := (leastN_spec (S := fun m => ∃ i G, I i ∧ Conc E G (J i).1 (J i).2 a2 w2 ∧ μ i = m) ⟨i3, G4, hI3, hC4, rfl⟩).2 _ ⟨i3, G4, hI3, hC4, rfl⟩
  rw [← hμ]
  omega
 | exit id => exact ⟨G3, f, s, hC3, hQ⟩
 | goto l => exact ⟨G3, f, s, hC3, hQ⟩
 | ret => exact ⟨G3, f, s, hC3, hQ⟩
 | panic ch => exact ⟨G3, f, s, hC3, hQ⟩
 | outgrown => exact ⟨G3, f, s, hC3, hQ⟩
theorem AK.mrange {l1 pre post : List GI} {b : ACode} {bid d0 d1 : Nat} {t : TypeId} {x0 x1 : Opd} (m : Nat) (rows : List MRow) (H : List (Nat × List AV)) (rs : List RS) {rs' : List RS} {fr1 : Fr} {st1 : St} {p1 : Prop}
  {ι : Type} (J : Nat → ι → Fr × St) (I : ι → Prop) (L : ι → List MRow) (i0 : ι) (hp1 : p1) (hI0 : I i0) (hL0 : L i0 = rows) (hH : ∀ x ∈ H, st1.box x.1 = some (x.2, false)) (hid : ∀ x ∈ H, 1000000 ≤ x.1) (hin : ∀ x ∈ H, ∀ c ∈ x.2, AV.inS (domS H) c = true)
  (hm : (m, [mcA rows]) ∈ H) (h0 : ∀ r, Weak (put1 fr1 d0 (itA r)) ⟨awayB H st1.box, st1.row⟩ (J r i0).1 (J r i0).2) (hJ : ∀ r i, x1.ev (J r i).1 = some (itA r))
  (hmore : ∀ (E2 : Env) r i la row lb, E2.n = E.n → I i → L i = la ++ row :: lb → EntAt P E2 r row → ∃ rs rs' f2 s2 p2, arun P post rs (put1 (J r i).1 d1 (.tup [.bool true, valA row.1, valA row.2])) (J r i).2 = some (rs', f2, s2, p2) ∧ p2 ∧ AK P E2 (MQ P E Q k bid H (J r) I L (some (la ++ lb))) [.c b] f2 s2)
  (hend : ∀ (E2 : Env) r i, E2.n = E.n → I i → L i = [] → ∃ rs rs' f2 s2 p2, arun P post rs (put1 (J r i).1 d1 (.tup [.bool false])) (J r i).2 = some (rs', f2, s2, p2) ∧ p2 ∧ AK P E2 (MQ P E Q k bid H (J r) I L none) [.c b] f2 s2)
  (hl1 : lastRng l1 = some (pre, t, d0, x0) := by rfl) (hs : arun P pre rs fr st = some (rs', fr1, st1, p1) := by rfl) (hx0 : x0.ev fr1 = some (.np m 0) := by rfl) (hmp : isMp m = true := by rfl) :
  AK P E Q (.c (.seq (.reg l1) (.block bid (.loop (.seq (.reg (⟨none, .nxt d1 x1⟩ :: post)) b)))) :: k) fr st := by
 intro hd mu c G ac w hc _ hC
 simp only [dstsOk, Bool.and_eq_true] at hd
 obtain ⟨hd1, hd2, hdb⟩ := hd
 obtain ⟨y, z, rfl, hy, hz⟩ := codeAC_seq hc
 have hl1' := lastRng_spec hl1
 obtain ⟨id1, ops1, rfl, hops1⟩ := codeAC_reg hy (by rw [hl1']; simp [GI.iter])
 obtain ⟨z1, rfl, hz1⟩ := codeAC_block hz
 obtain ⟨z2, rfl, hz2⟩ := codeAC_loop hz1
 obtain ⟨v, cb, rfl, hv, hcb⟩ := codeAC_seq hz2
 obtain ⟨id2, ops2, rfl, hops2⟩ := codeAC_reg hv rfl
 have hat1 := at_of hops1
 have hat2 := at_of hops2
 obtain ⟨S1, hS1, q1, hst1, hpq1⟩ := arun_asteps hs
 have hsz1 : ops1.size = S1.length + 1 := by rw [← hat1.1, hl1', ← hS1]; simp
 refine wp_seq (wp_region ?_)
 rw [List.range_eq_range', hsz1, List.range'_1_concat]
 refine seq_pre (tail := [0 + S1.length]) hat1 hd1 (fun G1 a1 w1 hC1 => ?_) (l := S1) (k := 0) (fun j x hx => by rw [hl1', Nat.zero_add, ← hS1, List.getElem?_append_left (List.getElem?_eq_some_iff.1 hx).1]; exact hx) (by omega) hst1 (hpq1 hp1) hC
 have hglast : l1[0 + S1.length]? = some ⟨none, .rng t d0 x0⟩ := by rw [hl1', ← hS1, Nat.zero_add, List.getElem?_append_right (by simp)]; simp
 refine wpOps_one hat1 hglast fun gs o ho => ?_
 obtain ⟨xo, e1, e2, e3, kt, et, hu⟩ := rng_of ho
 obtain ⟨gm, hB, hown, tt, vs, hHeap, hrel, htags, hfree⟩ := hC1.box m _ false (hH _ hm)
 obtain ⟨es, clock, hes, hst, hents⟩ := map_open hmp hHeap hrel
 have hval : a1.eval xo = .map (some gm) := by
  obtain ⟨_, _, g, k1, k2⟩ := hC1.ev e3 hx0
  rw [k1, ← k2 gm hB]
  unfold npV
  rw [hmp]
 have hrun := run_range_map (P := P) w1 t kt et gm es clock hu hes
 have hgm := hHeap.lt
 refine op_value (v := .pointer (some ⟨w1.heap.size, 0, none⟩)) (w' := w1.alloc (.mapIter (some gm) clock #[] clock)) (by
  unfold execOp
  rw [e1]
  simp only [hval, Sem.run_bind, hrun, Result.andThen_ok, Sem.run_pure]) e2 ?_
 have hdn0 : d0 < E.n := dstsLt_at hd1 hglast d0 rfl
 have hC2 : Conc E G1 (put1 fr1 d0 (itA w1.heap.size)) st1 (a1.put (some d0) (.pointer (some ⟨w1.heap.size, 0, none⟩))) (w1.alloc (.mapIter (some gm) clock #[] clock)) :=
  (hC1.same ((Below.refl w1.heap.size w1).alloc (Nat.le_refl _) _)).put hdn0 ⟨.raw _ rfl, trivial⟩
 have hr2 := heap_alloc_new w1 (.mapIter (some gm) clock #[] clock)
 have hm2 : (w1.alloc (.mapIter (some gm) clock #[] clock)).heap[gm]? = some (.map es clock) := (heap_alloc_old w1 _ hgm).trans hes
 have hrlt : w1.heap.size < (w1.alloc (.mapIter (some gm) clock #[] clock)).heap.size := (Array.getElem?_eq_some_iff.1 hr2).1
 have hrB : ∀ id g, G1.B id = some g → g ≠ w1.heap.size := fun id g hg => Nat.ne_of_lt (hC1.Blt id g hg)
 have hrE : E.own w1.heap.size := .inl hC1.lt
 show (Code.block bid _).wp P _ _ _
 clear hHeap hrel htags hfree
 generalize w1.heap.size = r at *
 generalize a1.put (some d0) (.pointer (some ⟨r, 0, none⟩)) = a2 at *
 generalize w1.alloc (.mapIter (some gm) clock #[] clock) = w2 at *
 have hC3 := hC2.away hH hid (Pr := fun b => ∃ x ∈ H, G1.B x.1 = some b) (fun b hb => .inl hb)
 obtain ⟨G4, hC4⟩ := h0 r _ _ a2 w2 hC3
 clear hC3
 generalize hgw : E.gwb hC2.below = gw at hC4
 clear hgw
 generalize hE1 : E.re w2 G1.σ gw (fun b => ∃ x ∈ H, G1.B x.1 = some b) = E1 at hC4
 have hown1 : E1.own r := by
  rw [← hE1]
  exact re_own.2 (.inr ⟨hrE, fun ⟨x, _, e⟩ => hrB _ _ e rfl⟩)
 have hnk1 : ¬ E1.K0 gm := by
  rw [← hE1]
  exact fun hk => (re_K0.1 hk).2 ⟨_, hm, hB⟩
 have hw01 : E1.w0 = w2 := by rw [← hE1]; rfl
 have hσ1 : E1.σ0 = G1.σ := by rw [← hE1]; rfl
 have hn1 : E1.n = E.n := by rw [← hE1]; rfl
 have hgm2 : gm < w2.heap.size := (Array.getElem?_eq_some_iff.1 hm2).1
 -- a way out
 have conv : ∀ (nx : Option (List MRow)) e G' f s a' w', e ≠ Exit.normal → Conc E1 G' f s a' w' → MQ P E Q k bid H (J r) I L nx e f s → Exit.inBlock bid (fun e a' w' => ∃ G' fr' st', Conc E G' fr' st' a' w' ∧ mkQ Q (KS P E Q k).1 (KS P E Q k).2 e fr' st') e a' w' := by
  intro nx e G' f s a' w' hne hc hq
  rw [← hE1] at hc
  have hcb := Conc.back hC2 hH hid hin (fun x hx b hb => ⟨x, hx, hb⟩) hc
  cases e with
  | normal => exact absurd rfl hne
  | exit i =>
   simp only [Exit.inBlock]
   simp only [MQ] at hq
   by_cases hi : i = bid
   ·rw [if_pos hi] at hq ⊢
    exact ⟨_, _, _, hcb, hq⟩
   ·rw [if_neg hi] at hq ⊢
    exact ⟨_, _, _, hcb, hq⟩
  | goto l => exact ⟨_, _, _, hcb, hq⟩
  | ret => exact ⟨_, _, _, hcb, hq⟩
  | panic ch => exact ⟨_, _, _, hcb, hq⟩
  | outgrown => exact ⟨_, _, _, hcb, hq⟩
 refine wp_block (wp_loop (fun a w => ∃ i G' seen, I i ∧ Conc E1 G' (J r i).1 (J r i).2 a w ∧ w.heap[r]? = some (.mapIter (some gm) clock seen clock) ∧ EntsOk G1.σ (leftOf es seen).toList (L i))
  (fun _ w => match w.heap[r]? with | some (.mapIter _ _ seen _) => (leftOf es seen).size | _ => 0) ⟨i0, G4, #[], hI0, hC4, hr2, by rw [leftOf_nil, hL0]; exact hents⟩ ?_)
 rintro a5 w5 ⟨i, G5, seen, hIi, hC5, hr5, hE5⟩
 have hm5 : w5.heap[gm]? = some (.map es clock) := (hC5.below.block gm (by rw [hw01]; exact hgm2) hnk1).trans (by rw [hw01]; exact hm2)
 refine wp_seq (wp_region ?_)
 have hsz2 : ops2.size = post.length + 1 := by rw [← hat2.1]; simp
 rw [List.range_eq_range', hsz2, List.range'_succ]
 refine wpOps_one hat2 (j := 0) rfl fun gs o ho => ?_
 obtain ⟨xo2, e4, e5, e6⟩ := nxt_of ho
 have hv2 : a5.eval xo2 = .pointer (some ⟨r, 0, none⟩) := raw_rel (hC5.ev e6 (hJ r i)).1
 have hdn1 : d1 < E1.n := by rw [hn1]; exact dstsLt_at hd2 (k := 0) rfl d1 rfl
 rcases run_next_at (P := P) w5 o.type r gm clock clock seen es clock hr5 hm5 hst.1 (Nat.le_refl _) with ⟨hz, hrun⟩ | ⟨e, he, w6, hw6, hrun⟩
 ·have hLi : L i = [] := by
   have h1 := hE5.1
   rw [Array.length_toList, hz] at h1
   exact List.length_eq_zero_iff.1 h1.symm
  obtain ⟨rs2, rs2', f2, s2, p2, ha, hp2, hK⟩ := hend E1 r i hn1 hIi hLi
  obtain ⟨S2, hS2, q2, hst2, hpq2⟩ := arun_asteps ha
  refine op_value (v := .tuple #[.bool false]) (w' := w5) (by
   unfold execOp
   rw [e4]
   simp only [hv2, Sem.run_bind, hrun, Result.andThen_ok, Sem.run_pure]) e5 ?_
  have hC6 := hC5.put (v := .tuple #[.bool false]) (x := .tup [.bool false]) hdn1 ⟨[.bool false], rfl, rfl, fun j u y hu hy => by
   rcases j with _ | j
   ·simp at hu hy; subst hu hy; exact .of (.bool _)
   ·simp at hu⟩
  have hl : post.length = S2.length := by rw [← hS2]; simp
  rw [hl]
  refine seq_run hat2 (by rw [hn1]; exact hd2) (fun G' a' w' hc => ?_) (l := S2) (k := 1) (fun j => by rw [hS2, Nat.add_comm, List.getElem?_cons_succ]) (by omega) hst2 (hpq2 hp2) hC6
  show cb.wp P _ a' w'
  refine wp_mono (hK (by rw [hn1]; exact hdb) mu cb G' a' w' hcb (by rw [hn1]; exact hdb) hc) fun e a9 w9 ⟨G9, f9, s9, hC9, hQ9⟩ => ?_
  have hQ9' : MQ P E Q k bid H (J r) I L none e f9 s9 := by cases e <;> exact hQ9
  cases e with
  | normal => obtain ⟨_, _, h2, _⟩ := hQ9' E1 G9 a9 w9 hC9; cases h2
  | exit i => exact conv none _ G9 f9 s9 a9 w9 (fun h => by cases h) hC9 hQ9'
  | goto l => exact conv none _ G9 f9 s9 a9 w9 (fun h => by cases h) hC9 hQ9'
  | ret => exact conv none _ G9 f9 s9 a9 w9 (fun h => by cases h) hC9 hQ9'
  | panic ch => exact conv none _ G9 f9 s9 a9 w9 (fun h => by cases h) hC9 hQ9'
  | outgrown => exact conv none _ G9 f9 s9 a9 w9 (fun h => by cases h) hC9 hQ9'
 ·obtain ⟨j, hj⟩ := List.getElem?_of_mem he
  have hjl := (List.getElem?_eq_some_iff.1 hj).1
  obtain ⟨row, hrow⟩ : ∃ row, (L i)[j]? = some row := ⟨_, List.getElem?_eq_getElem (by rw [← hE5.1]; exact hjl)⟩
  obtain ⟨ek1, ek2, eo1, eo2⟩ := hE5.2 j e row hj hrow
  obtain ⟨hsp1, hsp2⟩ := list_split hrow
  have hr6 : w6.heap[r]? = some (.mapIter (some gm) clock seen clock) := by rcases hw6 with rfl | rfl <;> exact hr5
  have hm6 : w6.heap[gm]? = some (.map es clock) := by rcases hw6 with rfl | rfl <;> exact hm5
  have hC6 : Conc E1 G5 (J r i).1 (J r i).2 a5 w6 := by
   rcases hw6 with rfl | rfl
   ·exact hC5
   ·exact hC5.same (Below.refl _ _).drew
  have hC7 := hC6.setIter hr6 hown1 (some gm) clock (seen.push e.born) clock
  have hr7 : (setBlock w6 r (.mapIter (some gm) clock (seen.push e.born) clock)).heap[r]? = some (.mapIter (some gm) clock (seen.push e.born) clock) := set_same hr6
  have hgr : gm ≠ r := fun e => by rw [e, hr6] at hm6; cases hm6
  have hm7 : (setBlock w6 r (.mapIter (some gm) clock (seen.push e.born) clock)).heap[gm]? = some (.map es clock) := (set_other hgr).trans hm6
  generalize setBlock w6 r (.mapIter (some gm) clock (seen.push e.born) clock) = w7 at *
  have hσ5 : G1.σ.le G5.σ := by have := hC5.ext.1; rw [hσ1] at this; exact this
  have rk : ∀ σ', G5.σ.le σ' → RelP σ' e.key (valA row.1) ∧ RelP σ' e.val (valA row.2) := fun σ' hle => ⟨relP_valA eo1 (ek1.mono (hσ5.trans hle)), relP_valA eo2 (ek2.mono (hσ5.trans hle))⟩
  have hC8 := hC7.put (v := .tuple #[.bool true, e.key, e.val]) (x := .tup [.bool true, valA row.1, valA row.2]) hdn1 ⟨[.bool true, e.key, e.val], rfl, rfl, fun j u y hu hy => by
   rcases j with _ | _ | _ | j
   ·simp at hu hy; subst hu hy; exact .of (.bool _)
   ·simp at hu hy; subst hu hy; exact .of (rk _ (.refl _)).1
   ·simp at hu hy; subst hu hy; exact .of (rk _ (.refl _)).2
   ·simp at hu⟩
  have hC9 := hC8.away0 hr7
  generalize E1.gwb hC8.below = gw7 at hC9
  have hw7 : r < w7.heap.size := (Array.getElem?_eq_some_iff.1 hr7).1
  have hgm7 : gm < w7.heap.size := (Array.getElem?_eq_some_iff.1 hm7).1
  have hEnt : EntAt P (E1.re w7 G5.σ gw7 (fun b => b = r)) r row := fun G' f s a' w' hc => by
   have q1 : w'.heap[r]? = w7.heap[r]? := hc.below.block r hw7 fun hk => (re_K0.1 hk).2 rfl
   have q2 : w'.heap[gm]? = w7.heap[gm]? := hc.below.block gm hgm7 fun hk => by
    rcases (re_K0.1 hk).1 with h1 | h1
    ·rw [hw01] at h1; omega
    ·exact hnk1 h1
   have hmem : e ∈ es.toList := by
    unfold leftOf at he
    rw [Array.toList_filter] at he
    exact (List.mem_filter.1 he).1
   exact ⟨e.key, e.val, run_entry_at w' r gm clock seen es clock e (q1.trans hr7) (q2.trans hm7) hmem hst.2.1, rk _ hc.ext.1⟩
  obtain ⟨rs2, rs2', f2, s2, p2, ha, hp2, hK⟩ := hmore (E1.re w7 G5.σ gw7 (fun b => b = r)) r i _ row _ hn1 hIi hsp1 hEnt
  obtain ⟨S2, hS2, q2, hst2, hpq2⟩ := arun_asteps ha
  refine op_value (v := .tuple #[.bool true, e.key, e.val]) (w' := w7) (by
   unfold execOp
   rw [e4]
   simp only [hv2, Sem.run_bind, hrun, Result.andThen_ok, Sem.run_pure]) e5 ?_
  have hl : post.length = S2.length := by rw [← hS2]; simp
  rw [hl]
  have hn2 : (E1.re w7 G5.σ gw7 (fun b => b = r)).n = E.n := hn1
  refine seq_run hat2 (by rw [hn2]; exact hd2) (fun G' a' w' hc => ?_) (l := S2) (k := 1) (fun j => by rw [hS2, Nat.add_comm, List.getElem?_cons_succ]) (by omega) hst2 (hpq2 hp2) hC9
  show cb.wp P _ a' w'
  refine wp_mono (hK (by rw [hn2]; exact hdb) mu cb G' a' w' hcb (by rw [hn2]; exact hdb) hc) fun ex a9 w9 ⟨G9, f9, s9, hC9, hQ9⟩ => ?_
  have hQ9' : MQ P E Q k bid H (J r) I L (some ((L i).take j ++ (L i).drop (j + 1))) ex f9 s9 := by cases ex <;> exact hQ9
  have hC10 := Conc.back0 hC8 hC9
  cases ex with
  | normal =>
   obtain ⟨i', hi', hL', G11, hC11⟩ := hQ9' E1 G9 a9 w9 hC10
   have q1 : w9.heap[r]? = some (.mapIter (some gm) clock (seen.push e.born) clock) := (hC9.below.block r hw7 fun hk => (re_K0.1 hk).2 rfl).trans hr7
   refine ⟨⟨i', G11, seen.push e.born, hi', hC11, q1, ?_⟩, ?_⟩
   ·rw [leftOf_push hst.2.1 hj, ← Option.some.inj hL', ← hsp2]
    exact ents_erase hE5 j
   ·simp only [q1, hr5]
    rw [← Array.length_toList, leftOf_push hst.2.1 hj, List.length_eraseIdx_of_lt hjl, Array.length_toList]
    rw [Array.length_toList] at hjl
    omega
  | exit i => exact conv _ _ G9 f9 s9 a9 w9 (fun h => by cases h) hC10 hQ9'
  | goto l => exact conv _ _ G9 f9 s9 a9 w9 (fun h => by cases h) hC10 hQ9'
  | ret => exact conv _ _ G9 f9 s9 a9 w9 (fun h => by cases h) hC10 hQ9'
  | panic ch => exact conv _ _ G9 f9 s9 a9 w9 (fun h => by cases h) hC10 hQ9'
  | outgrown => exact conv _ _ G9 f9 s9 a9 w9 (fun h => by cases h) hC10 hQ9'
end
end Go.Proofs.YtgidajjjpeboeaaGreatDoor
