/-
  The texts that the claim wants, one behind the other: part 14.
-/
import Derived.Test.YtgidajjjpeboeaaGreatDoorS13
import Derived.Test.YtgidajjjpeboeaaGreatDoorChecked
set_option linter.unusedSimpArgs false
set_option linter.unusedVariables false
namespace Go.Proofs.YtgidajjjpeboeaaGreatDoor
open Go.RowKit
theorem fw0 : Tryz.prog.follows .mixedOrders = true := by kernel_rfl
theorem kW {p q : Prop} (h : q) (f : q → p := by intro hh; (repeat (first | apply kS | apply kB | apply kL | apply kN | refine kA fw0 ?_)); exact hh) : p := f h
theorem kQ {P : Program} {E : Env} {Q : Exit → Fr → St → Prop} {k : List AItem} {fr fr' : Fr} {st st' : St} (rs : List RS) {l : List GI} {rs' : List RS} {p : Prop} (h : AK P E Q k fr' st') (hs : arun P l rs fr st = some (rs', fr', st', p) := by rfl)
  (hp : p := by (repeat' apply And.intro) <;> first | exact kD | (intro hgd; refine ⟨?_, kG⟩; (repeat' apply And.intro) <;> exact kD)) (hm : P.follows .mixedOrders = true := by exact fw0) : AK P E Q (.c (.reg l) :: k) fr st := kR hm rs hs hp h
theorem kP {P : Program} {E : Env} {Q : Exit → Fr → St → Prop} {k : List AItem} {fr fr' : Fr} {st st' : St} (rs : List RS) {l : List GI} {rs' : List RS} {p : Prop} (hp : p) (h : AK P E Q k fr' st') (hs : arun P l rs fr st = some (rs', fr', st', p) := by rfl) (hm : P.follows .mixedOrders = true := by exact fw0) : AK P E Q (.c (.reg l) :: k) fr st := kR hm rs hs hp h
theorem kE {P : Program} {mu : List Nat} {f : FuncId} {fn : Func} {af : AFn} {args : List AV} {r : AV} (hf : P.funcs[f]? = some fn) (haf : fnAF P mu fn = some af) (hcb : callable P f = true)
  (h : ∀ E : Env, E.n = af.n → AK P E (RQ af.res r) [.c af.body] (argFr 0 args) ⟨fun _ => none, fun _ => 0⟩) (hl : Nat.ble args.length af.n = true := by rfl) : AC P f args r := AC.enter hf haf hcb hl h
theorem kC {P : Program} {E : Env} {Q : Exit → Fr → St → Prop} {k : List AItem} {fr : Fr} {st : St} {x : Opd} {t e : ACode} {b : Bool} (h1 : b = true → AK P E Q (.c t :: k) fr st) (h2 : b = false → AK P E Q (.c e :: k) fr st) (hx : x.ev fr = some (.bool b) := by rfl) : AK P E Q (.c (.cond x t e) :: k) fr st := AK.cond hx h1 h2
theorem kI {st : St} {fr : Fr} {s : Nat} {x : AV} (h : fr s = some x := by rfl) : ∃ v, fr s = some v ∧ AVle st v x := ⟨x, h, .refl _⟩
theorem kJ {st : St} {s : Nat} {cs : List AV} {fz : Bool} (h : st.box s = some (cs, fz) := by rfl) : ∃ ds, st.box s = some (ds, fz) ∧ leL st ds cs := ⟨cs, h, leL_refl _⟩
theorem kU {st : St} {fr : Fr} {s : Nat} {k : IntKind} {a b : Int} (h : fr s = some (.int k a) := by rfl) (e : a = b := by first | omega | (rw [wrap_in (by omega) (by omega)]; omega)) : ∃ v, fr s = some v ∧ AVle st v (.int k b) := ⟨_, h, .of_eq (congrArg _ e)⟩
theorem byte_at {s : ByteArray} {k : Nat} (h : k < s.size) : s.data.getD k 0 = s[k] := by
 rw [Array.getD, dif_pos (show k < s.data.size from h)]
 rfl
def privN : List (Nat × List AV × Bool) → Prop
 | [] => True
 | (s, cs, _) :: L => match Nat.ble 1000000 s with
  | true => cs.all AV.noFrs = true ∧ privN L
  | false => privN L
theorem boxN_noFrs {L : List (Nat × AV)} {BL : List (Nat × List AV × Bool)} (hp : ptrOk L BL = true) (hpr : privN BL) : ∀ y ∈ BL, ∀ d ∈ y.2.1, d.noFrs = true := by
 intro y hy
 have h1 : ∀ z ∈ BL, (match Nat.ble 1000000 z.1 with | true => true | false => z.2.1.all AV.noFrs) = true := by
  unfold ptrOk at hp
  rw [Bool.and_eq_true] at hp
  exact List.all_eq_true.1 hp.2
 have h2 := h1 y hy
 cases hb : Nat.ble 1000000 y.1 with
 | false => rw [hb] at h2; exact List.all_eq_true.1 h2
 | true =>
  have h3 : ∀ (BL : List (Nat × List AV × Bool)), privN BL → ∀ y ∈ BL, Nat.ble 1000000 y.1 = true → y.2.1.all AV.noFrs = true := by
   intro BL
   induction BL with
   | nil => intro _ y hy; cases hy
   | cons z L ih =>
    intro hz y hy hb
    obtain ⟨s, cs, fz⟩ := z
    unfold privN at hz
    rcases List.mem_cons.1 hy with rfl | hy
    ·simp only at hb
     rw [hb] at hz
     exact hz.1
    ·split at hz
     ·exact ih hz.2 y hy hb
     ·exact ih hz y hy hb
  exact List.all_eq_true.1 (h3 BL hpr y hy hb)
theorem Weak.introN {fr : Fr} {st : St} {L : List (Nat × AV)} {BL : List (Nat × List AV × Bool)} {row : Nat → Nat} (h1 : slotsLe st fr L) (h2 : boxesLe st BL) (h3 : st.row = row) (h4 : ptrOk L BL = true) (h5 : privN BL) : Weak fr st (frOf L) ⟨boxOf BL, row⟩ := by
 intro E G a w h
 subst h3
 have hB' : ∀ id g, (if boxOf BL id = none then none else G.B id) = some g → G.B id = some g := fun id g hg => by
  split at hg
  ·cases hg
  ·exact hg
 have hx : G.less { G with B := fun id => if boxOf BL id = none then none else G.B id, φ := fun _ => none } := ⟨rfl, rfl, hB'⟩
 refine ⟨{ G with B := fun id => if boxOf BL id = none then none else G.B id, φ := fun _ => none },
  { defers := h.defers
    size := h.size
    slots := fun s x hs => ?_
    hold := h.hold
    ext := h.ext
    below := h.below
    box := fun id cs fz hs => ?_
    bnone := fun id hs => by simp only at hs ⊢; rw [if_pos hs]
    binj := fun id id' g h1 h2 => h.binj id id' g (hB' id g h1) (hB' id' g h2)
    row := fun s r hs => ⟨(h.row s r hs).1, fun id hid => (h.row s r hs).2 id (hB' id _ hid)⟩
    rinj := h.rinj
    rlt := h.rlt
    phi := fun k x hk => by cases hk
    phinj := fun k k' x x' hk => by cases hk
    pnone := fun _ _ => rfl
    small := h.small
    keep := fun id g h1 h2 => h.keep id g h1 (hB' id g h2) }⟩
 ·have hm := frOf_mem hs
  obtain ⟨v0, hv0, hvle⟩ := slotsLe_mem h1 _ hm
  have hp0 := h4
  unfold ptrOk at hp0
  rw [Bool.and_eq_true] at hp0
  have hp := List.all_eq_true.1 hp0.1 _ hm
  simp only at hp hvle
  refine (h.slots s v0 hv0).le h hx ?_ (fun id off g e hg => ?_) hvle
  ·cases x <;> first | rfl | exact hp
  ·subst e
   simp only [List.any_eq_true] at hp
   obtain ⟨y, hy, hyb⟩ := hp
   simp only
   rw [if_neg (boxOf_some hy (Nat.eq_of_beq_eq_true hyb))]
   exact hg
 ·have hm := boxOf_mem hs
  obtain ⟨ds, hds, hdle⟩ := boxesLe_mem h2 _ hm
  obtain ⟨g, k1, k2, t, vs, k3, k4, k5, k6⟩ := h.box id ds fz hds
  obtain ⟨q1, q2⟩ := cells_le h hx k4 k5 (boxN_noFrs h4 h5 _ hm) hdle
  refine ⟨g, ?_, k2, t, vs, k3, q1, q2, k6⟩
  simp only at hs ⊢
  rw [if_neg (by rw [hs]; simp)]
  exact k1
def SK (P : Program) (E : Env) (Q : Exit → Fr → St → Prop) (k : List AItem) (l : List GI) (fr : Fr) (st : St) : Prop :=
 ∀ (mu : List Nat) (ops : Array Oper) (gl pre : List GI), At P mu ops gl → dstsLt E.n gl = true → gl = pre ++ l → ∀ (G : Gho) (a : Act) (w : World), Conc E G fr st a w →
  wpOps P ops (fun e a' w' => ∃ G' fr' st', Conc E G' fr' st' a' w' ∧ mkQ Q (KS P E Q k).1 (KS P E Q k).2 e fr' st') (List.range' pre.length l.length) a w
section
variable {P : Program} {mu : List Nat} {E : Env} {G : Gho} {fr fr' fr1 fr2 : Fr} {st st' st1 st2 : St} {a : Act} {w : World} {Q : Exit → Fr → St → Prop} {k : List AItem}
theorem codeAC_regs {c : Code} {l : List GI} (h : codeAC P mu c = some (.regs l)) : ∃ id ops, c = .region id ops false ∧ opsGI P mu ops 0 ops.toList = some l := by
 cases c with
 | region id ops dr =>
  simp only [codeAC] at h
  split at h
  ·rename_i l' hl
   split at h
   ·split at h
    ·rename_i hm
     cases h
     rw [Bool.and_eq_true] at hm
     have : dr = false := by simpa using hm.2
     subst this
     exact ⟨id, ops, rfl, hl⟩
    ·cases h
   ·split at h <;> cases h
  ·cases h
 | cond x t e => simp only [codeAC] at h; split at h <;> cases h
 | seq x y => simp only [codeAC] at h; split at h <;> cases h
 | block id b => simp only [codeAC] at h; split at h <;> cases h
 | loop b => simp only [codeAC] at h; split at h <;> cases h
 | _ => cases h
theorem AK.regs {l : List GI} (h : SK P E Q k l fr st) : AK P E Q (.c (.regs l) :: k) fr st := by
 intro hd mu c G ac w hc _ hC
 obtain ⟨id, ops, rfl, hops⟩ := codeAC_regs hc
 have hat := at_of hops
 have hdd : dstsLt E.n l = true := hd
 refine wp_region ?_
 rw [List.range_eq_range', ← hat.1]
 exact h mu ops l [] hat hdd rfl G ac w hC
theorem SK.nil (h : AK P E Q k fr st) : SK P E Q k [] fr st := by
 intro mu ops gl pre _ _ _ G a w hC
 exact ⟨G, fr, st, hC, h⟩
theorem SK.app {l1 l2 : List GI} {rs rs' : List RS} {p : Prop} (hs : arun P l1 rs fr st = some (rs', fr', st', p)) (hp : p) (h : SK P E Q k l2 fr' st') : SK P E Q k (l1 ++ l2) fr st := by
 intro mu ops gl pre hat hd hgl G a w hC
 obtain ⟨S, hS, q, hst, hpq⟩ := arun_asteps hs
 have hSl : S.length = l1.length := by rw [← hS, List.length_map]
 have e : List.range' pre.length (l1 ++ l2).length = List.range' pre.length S.length ++ List.range' (pre ++ l1).length l2.length := by
  rw [List.length_append, List.length_append, hSl, List.range'_append_1]
 rw [e]
 refine seq_pre hat hd (fun G' a' w' hC' => h mu ops gl (pre ++ l1) hat hd (by rw [hgl, List.append_assoc]) G' a' w' hC') (fun j x hx => ?_) ?_ hst (hpq hp) hC
 ·rw [hS] at hx
  rw [hgl, List.getElem?_append_right (by omega), show pre.length + j - pre.length = j by omega, List.getElem?_append_left (List.getElem?_eq_some_iff.1 hx).1]
  exact hx
 ·rw [← hat.1, hgl, List.length_append, List.length_append]
  omega
theorem SK.run {l : List GI} (j : Nat) (rs : List RS) {rs' : List RS} {p : Prop} (hp : p) (h : SK P E Q k (l.drop j) fr' st') (hs : arun P (l.take j) rs fr st = some (rs', fr', st', p) := by rfl) : SK P E Q k l fr st := by
 have := SK.app hs hp h
 rwa [List.take_append_drop] at this
theorem SK.all {l : List GI} (rs : List RS) {rs' : List RS} {p : Prop} (hp : p) (h : AK P E Q k fr' st') (hs : arun P l rs fr st = some (rs', fr', st', p) := by rfl) : SK P E Q k l fr st := by
 have := SK.app hs hp (SK.nil h)
 rwa [List.append_nil] at this
theorem SK.open {l : List GI} (s d id : Nat) {esz : Nat} {rows : List (List AV)} (hd : fr s = some (.frs d esz rows)) (hid : 1000000 ≤ id) (hfree : st.box id = none)
  (h : ∀ cap m, rows.length ≤ cap → (rows.flatten ++ List.replicate m AV.top).length = cap * esz → SK P E Q k l (opnF d id cap fr) (opnB d id cap (rows.flatten ++ List.replicate m AV.top) st)) (hid2 : id < 2000000 := by omega) (hmp : isMp id = false := by rfl) : SK P E Q k l fr st := by
 intro mu ops gl pre hat hdd hgl G a w hC
 obtain ⟨cap, m, h1, h2, G', hC'⟩ := hC.open s d id hd hid hfree hid2 hmp
 exact h cap m h1 h2 mu ops gl pre hat hdd hgl G' a w hC'
structure MSX {ι : Type} (P : Program) (f : FuncId) (S : List (Nat × List AV)) (args : List AV) (I : ι → Prop) (S' : ι → List (Nat × List AV)) (r : ι → AV) : Prop where
 cb : callable P f = true
 run : ∀ (σ : Sg) (w : World) (B : Nat → Option Nat) (vs : List Value), Holds σ w → GW w → (∀ id g, B id = some g → id ∈ domS S) → (∀ id id' g, B id = some g → B id' = some g → id = id') → (∀ id g, B id = some g → ¬ isGl g) → BoxesAt σ w B S → RelBs σ B vs args →
  Calls P f vs.toArray w fun e w' => ∃ i, I i ∧ ∃ σ' v B', e = .returned v ∧ ExtK (fun b => ∃ id, B id = some b) σ σ' w.heap.size ∧ Holds σ' w' ∧ BelowK (fun b => ∃ id, B id = some b) w w' ∧ (∀ id g, B' id = some g → id ∈ domS (S' i)) ∧ (∀ id id' g, B' id = some g → B' id' = some g → id = id') ∧
   BoxesAt σ' w' B' (S' i) ∧ RelB σ' B' v (r i) ∧ (∀ id g, B' id = some g → (∃ id', B id' = some g) ∨ w.heap.size ≤ g) ∧ ∀ id g g', B id = some g → B' id = some g' → g = g'
theorem call_msx {ι : Type} {I : ι → Prop} {S' : ι → List (Nat × List AV)} {r : ι → AV} {o : Oper} {K : Act → World → Prop} {Q : Exit → Act → World → Prop} (h : Conc E G fr st a w) {c : Call} {f : Operand} (ho : o.op = .call c) (hc : c.callee = .value f) {fid : FuncId} {cap av bs : List AV} {ids : List Nat} {S : List (Nat × List AV)} {us : List Value} {ts : List TypeId} {ys : List Opd} (hfe : a.eval f = .func (.func fid) #[] us.toArray) (hus : RelL G.σ us cap)
  (hargs : opdsOf P c.args.toList ts = some ys) (hav : evs fr ys = some av) (hbs : argsN av = some bs) (hS : handS st.box ids = some S) (hok : ∀ i, I i → (okS ids (S' i) (r i) && freeIds st.box (newIds ids (S' i))) = true) (hMS : MSX P fid S (bs ++ cap) I S' r) (hn : ∀ d, o.dst = some d → d < E.n)
  (hk : ∀ i, I i → Then E (match o.dst with | some d => put1 (clrF (newIds ids (S' i)) fr) d (r i) | none => clrF (newIds ids (S' i)) fr) ⟨putS (clrB (newIds ids (S' i)) st.box) ids (S' i), st.row⟩ K) : o.wp P a w K Q := by
 obtain ⟨hd1, hd2⟩ := handS_mem hS
 have hrel := (argsN_rel h ids hargs hav hbs).append (cap := cap) hus
 unfold Oper.wp
 rw [enter_run ho hc hMS.cb hfe, Oper.upon_enter]
 have hgw := E.gwb h.below
 have hat : BoxesAt G.σ w (inB G.B ids) S := fun id cs hm => by
  obtain ⟨cs0, k1, k2⟩ := hd2 _ hm
  simp only at k1 k2
  subst k2
  obtain ⟨g, q1, q2, t, vs, q3, q4, q5, q6⟩ := h.box id cs0 false k1
  have hid : id ∈ ids := by rw [← hd1]; exact List.mem_map.2 ⟨_, hm, rfl⟩
  refine ⟨g, t, vs, by rw [inB_of hid]; exact q1, q3, ?_, fun j v c hv hc => ?_, fun j => q6 j⟩
  ·rw [List.map_map, show AV.unown ∘ AV.told = AV.unown from funext told_unown]
   exact q4
  ·rw [List.getElem?_map] at hc
   cases hc0 : cs0[j]? with
   | none => rw [hc0] at hc; cases hc
   | some c0 => rw [hc0] at hc; cases hc; exact (q5 j v c0 (by simpa using hv) hc0).toB
 refine (hMS.run G.σ w (inB G.B ids) _ h.hold hgw (fun id g hg => by rw [hd1]; exact (inB_some hg).1) (fun id id' g h1 h2 => h.binj id id' g (inB_some h1).2 (inB_some h2).2) (fun id g hg => ?_) hat hrel).mono fun e w' ⟨i, hi, σ', v, B', he, hx, hh, hb, hdom, hinj, hat', hr, hrange, hkept⟩ => ?_
 ·obtain ⟨k1, k2⟩ := inB_some hg
  rw [← hd1] at k1
  obtain ⟨x, hxS, e⟩ := List.mem_map.1 k1
  obtain ⟨cs, q1, _⟩ := hd2 x hxS
  rw [e] at q1
  obtain ⟨g', q2, q3, _⟩ := h.box id cs false q1
  rw [k2] at q2
  cases q2
  exact E.ownGl q3
 ·subst he
  have hok1 := hok i hi
  rw [Bool.and_eq_true] at hok1
  obtain ⟨hok, hfree⟩ := hok1
  obtain ⟨G', hG', hσ, hB⟩ := h.handed hS hok hfree hx hh hb hdom hinj hat' hrange hkept
  have hk := hk i hi
  cases hd : o.dst with
  | none => exact hk G' a w' (by rw [hd]; exact hG')
  | some d =>
   refine hk G' (a.put (some d) v) w' ?_
   rw [hd]
   refine hG'.put (hn d hd) (told1_res hσ hB ?_ hr)
   unfold okS at hok
   simp only [Bool.and_eq_true] at hok
   exact hok.2
theorem calls_of {gs : Bool} {o : Oper} {d : Option Nat} {f : Opd} {xs : List Opd} (h : opAI P mu gs o = some (.calls d f xs)) : ∃ c fo, o.op = .call c ∧ c.callee = .value fo ∧ opdOf P 0 fo = some f ∧ opdsOf P c.args.toList c.argTypes.toList = some xs ∧ d = o.dst := by
 unfold opAI at h
 (repeat' split at h) <;> first
  | (cases h; done)
  | (cases h; exact ⟨_, _, by assumption, by assumption, by assumption, by assumption, rfl⟩)
theorem SK.callX {ι : Type} (I : ι → Prop) (S' : ι → List (Nat × List AV)) (r : ι → AV) (ids : List Nat) {d : Option Nat} {f : FuncId} {xs : List Opd} {post : List GI} {av bs : List AV} {S : List (Nat × List AV)} (hM : MSX P f S bs I S' r) (hok : ∀ i, I i → (okS ids (S' i) (r i) && freeIds st.box (newIds ids (S' i))) = true)
  (h : ∀ i, I i → SK P E Q k post (match d with | some d => put1 (clrF (newIds ids (S' i)) fr) d (r i) | none => clrF (newIds ids (S' i)) fr) ⟨putS (clrB (newIds ids (S' i)) st.box) ids (S' i), st.row⟩)
  (hav : evs fr xs = some av := by rfl) (hbs : argsN av = some bs := by rfl) (hS : handS st.box ids = some S := by rfl) : SK P E Q k (⟨none, .calls d (.k (.fn f [])) xs⟩ :: post) fr st := by
 intro mu ops gl pre hat hdd hgl G a w hC
 rw [List.length_cons, List.range'_succ]
 have hj : gl[pre.length]? = some ⟨none, .calls d (.k (.fn f [])) xs⟩ := by rw [hgl, List.getElem?_append_right (Nat.le_refl _), Nat.sub_self]; rfl
 refine wpOps_one hat hj fun gs o ho => ?_
 obtain ⟨c, fo, h1, h2, h3, h4, h5⟩ := calls_of ho
 obtain ⟨us, hfe, hus⟩ := fn_open (hC.ev h3 (show Opd.ev fr (.k (.fn f [])) = some (.fn f []) from rfl)).1
 subst h5
 refine call_msx (I := I) (S' := S') (r := r) hC h1 h2 hfe hus h4 hav hbs hS hok (by rw [List.append_nil]; exact hM) (fun d hd => dstsLt_at hdd hj d hd) fun i hi G' a' w' hC' => ?_
 have := h i hi mu ops gl (pre ++ [⟨none, .calls o.dst (.k (.fn f [])) xs⟩]) hat hdd (by rw [hgl, List.append_assoc]; rfl) G' a' w' hC'
 rwa [List.length_append] at this
def RQX {ι : Type} (res : List ARes) (I : ι → Prop) (S' : ι → List (Nat × List AV)) (r : ι → AV) : Exit → Fr → St → Prop := fun e f s => ∃ i, I i ∧ RQS res (S' i) (r i) e f s
theorem MSX.enter {ι : Type} {I : ι → Prop} {S' : ι → List (Nat × List AV)} {r : ι → AV} {f : FuncId} {fn : Func} {af : AFn} {args : List AV} {S : List (Nat × List AV)} (hf : P.funcs[f]? = some fn) (haf : fnAF P mu fn = some af) (hcb : callable P f = true) (hlen : Nat.ble args.length af.n = true) (hokS : okInS S args = true)
  (hbody : ∀ E : Env, E.n = af.n → AK P E (RQX af.res I S' r) [.c af.body] (argFr 0 args) ⟨boxS S, fun _ => 0⟩) : MSX P f S args I S' r := by
 have hok := hokS
 unfold okInS at hok
 rw [Bool.and_eq_true] at hok
 have hbig : ∀ id, id ∈ domS S → 2000000 ≤ id := fun id hid => by
  obtain ⟨x, hx, e⟩ := List.mem_map.1 hid
  have := List.all_eq_true.1 hok.1 x hx
  rw [Bool.and_eq_true] at this
  rw [← e]
  exact Nat.le_of_ble_eq_true this.1
 refine ⟨hcb, fun σ w B vs hh hg hdom hinj hgl hat hr => calls_rawS hf haf hlen (by unfold okInS; rw [Bool.and_eq_true]; exact ⟨hok.1, rfl⟩) hbody hh hg hdom hinj hgl hat hr.1 (fun j v x hv hx => okIn_arg (G := ⟨σ, B, fun _ _ => none, fun _ => none⟩) (hr.2 j v x hv hx) (List.all_eq_true.1 hok.2 x (List.mem_of_getElem? hx))) fun E G' f' s' a' w' e e1 e2 e3 e4 hC' hQ hres => ?_⟩
 obtain ⟨i0, hi0, hQ⟩ := hQ
 have he : e = .normal ∨ e = .ret := by cases e <;> first | exact .inl rfl | exact .inr rfl | exact hQ.elim
 have hQ' : (∃ l, resValsG AV.argN f' s' af.res = some l ∧ resOne l = r i0) ∧ boxesN s' (S' i0) := by rcases he with rfl | rfl <;> exact hQ
 obtain ⟨⟨l, hl, hr1⟩, hbx⟩ := hQ'
 have hB' : ∀ id g, inB G'.B (domS (S' i0)) id = some g → id ∈ domS (S' i0) ∧ G'.B id = some g := fun id g hg => inB_some hg
 obtain ⟨us, k1, k2, k3⟩ := res_val hC' (R := fun v x => RelB1 G'.σ (inB G'.B (domS (S' i0))) v x ∧ x.isTup = false) (fun v c x hc hx => ⟨argN_rel (fun id g hg => (hB' id g hg).2) hc hx, argN_notup hx⟩) hres hl
 have hown : ∀ id g, inB G'.B (domS (S' i0)) id = some g → (∃ id', B id' = some g) ∨ w.heap.size ≤ g := fun id g hg => by
  obtain ⟨q1, q2⟩ := hB' id g hg
  obtain ⟨x, hx, e⟩ := List.mem_map.1 q1
  obtain ⟨ds, d1, d2⟩ := boxesN_mem hbx x hx
  obtain ⟨g2, d3, d4, _⟩ := hC'.box x.1 ds false d1
  rw [e, q2] at d3
  cases d3
  rcases d4 with d4 | ⟨i, d4⟩ | d4
  ·rw [e1] at d4; exact .inr d4
  ·rw [e3] at d4; exact .inl ⟨i, d4⟩
  ·rw [e4] at d4; exact d4.elim
 have hx := hC'.ext
 have hb := hC'.below
 have hKe : E.K0 = fun b => ∃ id, B id = some b := by funext b; unfold Env.K0; rw [e3, e4]; simp
 rw [hKe, e1, e2] at hx
 rw [hKe, e1] at hb
 refine ⟨he, _, k1, i0, hi0, G'.σ, _, inB G'.B (domS (S' i0)), rfl, hx, hC'.hold, hb, fun id g hg => (hB' id g hg).1, fun id id' g h1 h2 => hC'.binj id id' g (hB' id g h1).2 (hB' id' g h2).2, fun id cs hm => ?_, ?_, hown, fun id g g' h1 h2 => ?_⟩
 ·obtain ⟨ds, d1, d2⟩ := boxesN_mem hbx _ hm
  simp only at d1 d2
  subst d2
  obtain ⟨g2, d3, d4, t, vs', d5, d6, d7, d8⟩ := hC'.box id ds false d1
  have hdm : id ∈ domS (S' i0) := List.mem_map.2 ⟨_, hm, rfl⟩
  refine ⟨g2, t, vs', by rw [inB_of hdm]; exact d3, d5, ?_, fun j v c hv hc => ?_, fun j => d8 j⟩
  ·rw [List.map_map, show AV.unown ∘ AV.told = AV.unown from funext told_unown]
   exact d6
  ·rw [List.getElem?_map] at hc
   cases hc0 : ds[j]? with
   | none => rw [hc0] at hc; cases hc
   | some c0 => rw [hc0] at hc; cases hc; exact (d7 j v c0 (by simpa using hv) hc0).toldB fun id g hg => (hB' id g hg).2
 ·rw [← hr1]
  rcases us with _ | ⟨u, _ | ⟨v, us⟩⟩
  ·have : l = [] := List.eq_nil_of_length_eq_zero k2.symm
   subst this
   exact ⟨[], rfl, rfl, fun j u x hu hx => (k3 j u x hu hx).1⟩
  ·obtain ⟨x, rfl⟩ := List.length_eq_one_iff.1 k2.symm
   obtain ⟨q1, q2⟩ := k3 0 u x rfl rfl
   show RelB _ _ u x
   cases x <;> first | exact q1 | cases q2
  ·rcases l with _ | ⟨x, _ | ⟨y, l⟩⟩ <;> simp at k2
   exact ⟨u :: v :: us, rfl, by simp [k2], fun j u x hu hx => (k3 j u x hu hx).1⟩
 ·have h3 := hC'.keep id g' (hbig id (hdom id g h1)) (hB' id g' h2).2
  rw [e3, h1] at h3
  exact Option.some.inj h3
theorem MSX.ren {ι : Type} {I : ι → Prop} {S' : ι → List (Nat × List AV)} {r : ι → AV} {f : FuncId} {args : List AV} {S : List (Nat × List AV)} (h : MSX P f S args I S' r) (ρ : Nat → Nat) (hρ : ∀ i j, ρ i = ρ j → i = j) (hm : ∀ i, isMp (ρ i) = isMp i) : MSX P f (renS ρ S) (args.map (AV.ren ρ)) I (fun i => renS ρ (S' i)) (fun i => (r i).renR ρ) := by
 refine ⟨h.cb, fun σ w B vs hh hg hdom hinj hgl hat hr => ?_⟩
 have hK : ∀ b, (∃ i, B (ρ i) = some b) ↔ ∃ id, B id = some b := fun b => by
  constructor
  ·rintro ⟨i, hi⟩; exact ⟨_, hi⟩
  ·rintro ⟨id, hid⟩
   have := hdom id b hid
   rw [domS_ren] at this
   obtain ⟨i, _, rfl⟩ := List.mem_map.1 this
   exact ⟨i, hid⟩
 have hKe : (fun b => ∃ i, B (ρ i) = some b) = fun b => ∃ id, B id = some b := funext fun b => propext (hK b)
 refine (h.run σ w (fun i => B (ρ i)) vs hh hg (fun i g hi => ?_) (fun i j g h1 h2 => hρ _ _ (hinj _ _ g h1 h2)) (fun i g hi => hgl _ g hi) (hat.unren hm fun _ => rfl) ⟨by rw [hr.1, List.length_map], fun j v a hv ha => (RelB1.ren hm fun _ => rfl).1 (hr.2 j v (a.ren ρ) hv (by rw [List.getElem?_map, ha]; rfl))⟩).mono fun e w' ⟨i0, hi0, σ', v, B1, he, hx, hh', hb, hdom', hinj', hat', hr', hrange, hkept⟩ => ?_
 ·have := hdom _ g hi
  rw [domS_ren] at this
  obtain ⟨k, hk, e⟩ := List.mem_map.1 this
  rw [hρ _ _ e] at hk
  exact hk
 ·rw [hKe] at hx hb
  refine ⟨i0, hi0, σ', v, unren ρ B1, he, hx, hh', hb, fun id g hg => ?_, fun id id' g h1 h2 => ?_, hat'.ren hm (unren_at hρ B1), hr'.ren hm (unren_at hρ B1), fun id g hg => ?_, fun id g g' h1 h2 => ?_⟩
  ·obtain ⟨i, rfl, hi⟩ := unren_some hg
   rw [domS_ren]
   exact List.mem_map.2 ⟨i, hdom' i g hi, rfl⟩
  ·obtain ⟨i, rfl, hi⟩ := unren_some h1
   obtain ⟨j, rfl, hj⟩ := unren_some h2
   rw [hinj' i j g hi hj]
  ·obtain ⟨i, rfl, hi⟩ := unren_some hg
   exact (hrange i g hi).imp (fun ⟨k, hk⟩ => ⟨_, hk⟩) id
  ·obtain ⟨i, rfl, hi⟩ := unren_some h2
   exact hkept i g g' h1 hi
end
end Go.Proofs.YtgidajjjpeboeaaGreatDoor
