/-
  The texts that the claim wants, one behind the other: part 8.
-/
import Derived.Test.YtgidajjjpeboeaaGreatDoorS7
import Derived.ProofKit
import Derived.SizedLaws
import Derived.Deep.Slices
set_option linter.unusedSimpArgs false
set_option linter.unusedVariables false
namespace Go.Proofs.YtgidajjjpeboeaaGreatDoor
open Go.ChangeShapes Go.WideShapes Go.ChangeAt Go.RowKit Go.Deep
section
variable {H : Type} {enc : TypeId × Value → H} {P : Program}
theorem trodAll_below (hl : laidOutB P = true) {W W' : World} (hb : Below W.heap.size W W') : ∀ (ts : List TypeId) (vs : List Value) (ds : List (DataW H)) (p : List MemPlace),
  (∀ t ∈ ts, P.readableRec t = true ∧ t < P.types.size) → DataW.TrodAll enc P W 0 (fun _ => true) true ts vs ds p → (∀ x ∈ p, x.block < W.heap.size) →
  DataW.TrodAll enc P W' 0 (fun b => decide (b < W.heap.size)) true ts vs ds p
 | [], vs, ds, p, _, h, _ => by
  obtain ⟨rfl, rfl, rfl⟩ := trodAll_nil h
  exact rfl
 | t :: ts, vs, ds, p, ht, h, hlt => by
  obtain ⟨v, vs', d, ds', p', q, rfl, rfl, rfl, h1, h2⟩ := trodAll_cons h
  exact ⟨p', q, Below.trod hl (ht t (by simp)).1 (ht t (by simp)).2 h1 hb (fun x hx => hlt x (by simp [hx])),
   trodAll_below hl hb ts vs' ds' q (fun t' h' => ht t' (by simp [h'])) h2 (fun x hx => hlt x (by simp [hx])), rfl⟩
theorem law_post {f : Func} {s : ChangeSpec} {tb : TypeId} (hl : laidOutB P = true) (hr : (f.params.toList.all fun t => P.readableRec t && decide (t < P.types.size)) = true) (hres : f.resultTypes = #[tb]) (hB : P.underlying tb = some .bool)
  (hv : s.vars = []) {W W' : World} {args : Array Value} {ds gs : List (DataW H)} {before : List MemPlace} (hW : DataW.Whole enc P f.params.toList s.vars false W args.toList ds gs before)
  (hs : s.fn H (ds ++ []) = { results := [.lit (.bool true)], args := ds }) (hb : Below W.heap.size W W') : s.post enc P f false true false false W args (.bool true) W' := by
 have hW' := hW
 obtain ⟨p, q, hA, hV, rfl, hfz, hnd⟩ := hW
 rw [hv] at hV
 obtain ⟨rfl, rfl⟩ := trodVars_none hV
 have e := hs
 have hlt : ∀ x ∈ p, x.block < W.heap.size := fun x hx => hW'.lt x (by simp [hx])
 refine ⟨ds, [], p ++ [], [], p, [], hW', ?_, ?_, ?_, hb.frame _, fun h => by cases h⟩
 ·rw [e, hres]; exact trodAll_mk1 (shut_bool hB _)
 ·rw [e]
  exact trodAll_below hl hb _ _ _ _ (fun t ht => by
   have := List.all_eq_true.1 hr t ht
   simpa using this) hA hlt
 ·rw [e, hv]; exact rfl
end
theorem list6 {α : Type} {l : List α} (h : l.length = 6) : ∃ a b c d e f, l = [a, b, c, d, e, f] := by
 rcases l with _ | ⟨a, _ | ⟨b, _ | ⟨c, _ | ⟨d, _ | ⟨e, _ | ⟨f, _ | ⟨g, l⟩⟩⟩⟩⟩⟩⟩ <;> simp at h
 exact ⟨a, b, c, d, e, f, rfl⟩
theorem list7 {α : Type} {l : List α} (h : l.length = 7) : ∃ a b c d e f g, l = [a, b, c, d, e, f, g] := by
 rcases l with _ | ⟨a, l⟩
 ·simp at h
 ·obtain ⟨b, c, d, e, f, g, rfl⟩ := list6 (l := l) (by simpa using h)
  exact ⟨a, b, c, d, e, f, g, rfl⟩
section
variable {H : Type} {enc : TypeId × Value → H} {P : Program}
end
def σW (w : World) : Sg := fun b o => w.cell? ⟨b, o, none⟩
theorem holds_all (w : World) : Holds (σW w) w := fun _ _ _ h => h
theorem rel_of_sl {α : Type} {R : List Value → α → Prop} {w : World} {B size : Nat} {v : Value} {l : List α} (h : Sl size R w B v l) (row : α → List AV) (hR : ∀ cs x, R cs x → RelL (σW w) cs (row x)) : Rel1 (σW w) v (.lst .any size (l.map row)) := by
 obtain ⟨A, cap, rfl, hcap, hat⟩ := h
 cases l with
 | nil => exact .lst .any size [] A 0 cap 0 0 (fun _ _ => undef) rfl (by omega) (fun h => by omega) (fun i c h => by simp at h) (fun i j h => by omega) (fun i j c a h => by simp at h) trivial
 | cons x0 l0 =>
  obtain ⟨b, o, hA, _⟩ := hat 0 x0 rfl
  subst hA
  have key : ∀ (i : Nat) x, (x0 :: l0)[i]? = some x → ∃ cs : List Value, cs.length = size ∧ R cs x ∧ ∀ (j : Nat) u, cs[j]? = some u → w.cell? ⟨b, o + i * size + j, none⟩ = some u := by
   intro i x hi
   obtain ⟨b', o', hA, _, cs, h1, h2, h3⟩ := hat i x hi
   injection hA with hA
   injection hA with e1 e2
   subst e1 e2
   exact ⟨cs, h1, h2, h3⟩
  refine .lst .any size _ _ _ cap b o (fun i j => (w.cell? ⟨b, o + i * size + j, none⟩).getD undef) (by simp) hcap (fun _ => rfl) (fun i c hc => ?_) (fun i j hi hj => ?_) (fun i j c a hc ha => ?_) trivial
  ·rw [List.getElem?_map] at hc
   cases hx : (x0 :: l0)[i]? with
   | none => rw [hx] at hc; cases hc
   | some x =>
    rw [hx] at hc
    cases hc
    obtain ⟨cs, h1, h2, _⟩ := key i x hx
    rw [← (hR cs x h2).1, h1]
  ·obtain ⟨cs, h1, h2, h3⟩ := key i _ (List.getElem?_eq_getElem hi)
   have h4 := h3 j _ (List.getElem?_eq_getElem (by omega))
   simp only [σW, h4, Option.getD_some]
  ·rw [List.getElem?_map] at hc
   cases hx : (x0 :: l0)[i]? with
   | none => rw [hx] at hc; cases hc
   | some x =>
    rw [hx] at hc
    cases hc
    obtain ⟨cs, h1, h2, h3⟩ := key i x hx
    obtain ⟨u, hu, hr⟩ := (hR cs x h2).at_ ha
    rw [h3 j u hu]
    exact hr
section
variable {H : Type} {enc : TypeId × Value → H} {P : Program}
def WtOk (P : Program) (t : TypeId) (d : DataW H) : Prop := ∀ q ∈ d.weights P t, q ≤ reachBytes
theorem WtOk.part {t : TypeId} {fs : Array Field} (ht : P.underlying t = some (.struct fs)) {xs : List (DataW H × List MemPlace)} (h : WtOk P t (.agg (xs.map (·.1)))) {j : Nat} {f : Field} (hf : fs[j]? = some f) {x : DataW H × List MemPlace} (hx : xs[j]? = some x) : WtOk P f.type x.1 := by
 intro q hq
 refine h q ?_
 unfold DataW.weights
 rw [ht]
 exact DataW.weights_mem_each (j := j) (by simp [hf]) (by simp [hx]) q hq
theorem weightsAll_mem {e : TypeId} : ∀ {ds : List (DataW H)} {d : DataW H}, d ∈ ds → ∀ q ∈ d.weights P e, q ∈ DataW.weightsAll P e ds
 | d' :: ds, d, hd, q, hq => by
  unfold DataW.weightsAll
  rcases List.mem_cons.1 hd with rfl | hd
  ·exact List.mem_append_left _ hq
  ·exact List.mem_append_right _ (weightsAll_mem hd q hq)
theorem sl_of_trodW {α : Type} {R : List Value → α → Prop} {w : World} {base : Nat} {spare : Nat → Bool} {held : Bool} {t e : TypeId} {size : Nat} (ht : P.underlying t = some (.slice e)) (hC : P.cellsOf e = size) (hsz : 0 < size)
  {v : Value} {fuel : Nat} {x : DataW H × List MemPlace} (h : DataW.trod enc P w base spare held fuel t [v] = some x) (hw : WtOk P t x.1) (hR : ∀ n cs y, n < fuel → DataW.trod enc P w base spare held n e cs = some y → WtOk P e y.1 → ∃ a, R cs a) :
  ∃ l : List α, Sl size R w w.heap.size v l ∧ l.length * P.bytesOf e ≤ reachBytes := by
 rcases DataW.trod_slice ht h with ⟨hcs, hx⟩ | ⟨a, len, cap, elems, rest, n, hn, hcs, hx, hb, hl, hm, hlen, hel, hsp, hns⟩
 ·injection hcs with hcs
  subst hcs
  exact ⟨[], Sl.nil _ _, by simp⟩
 ·injection hcs with hcs
  subst hcs hC
  have hwt : (elems.length + rest.length) * P.bytesOf e ≤ reachBytes ∧ ∀ y ∈ elems, WtOk P e y.1 := by
   rw [hx] at hw
   unfold WtOk DataW.weights at hw
   simp only [ht] at hw
   refine ⟨by simpa using hw _ (List.mem_cons_self ..), fun y hy q hq => hw q (List.mem_cons_of_mem _ (List.mem_append_left _ (weightsAll_mem (List.mem_map_of_mem hy) q hq)))⟩
  have key : ∀ i, i < len → ∃ cs y, w.cells? base (a.add (i * P.cellsOf e)) (P.cellsOf e) = some cs ∧ DataW.trod enc P w base spare held n e cs = some y ∧ WtOk P e y.1 := by
   intro i hi
   have h1 := hel i hi
   have h0 : elems[i]? = some (elems[i]'(by omega)) := List.getElem?_eq_getElem (by omega)
   rw [h0] at h1
   obtain ⟨cs, h2, h3⟩ := Option.bind_eq_some_iff.1 h1
   exact ⟨cs, _, h2, h3, hwt.2 _ (List.mem_of_getElem? h0)⟩
  have hspot : 0 < len → a.spot = none := by
   intro h0
   obtain ⟨cs, y, h1, _⟩ := key 0 h0
   obtain ⟨_, hlc, hat⟩ := World.cells?_some h1
   have h2 := hat 0 hsz
   have e1 : (a.add (0 * P.cellsOf e)).add 0 = a := by simp [Addr.add]
   rw [e1] at h2
   cases hsp : a.spot with
   | none => rfl
   | some s =>
    have : w.cell? a = none := by
     unfold World.cell?
     split
     ·simp [hsp]
     ·rfl
    rw [this] at h2
    have : cs[0]? = some (cs[0]'(by omega)) := List.getElem?_eq_getElem (by omega)
    rw [this] at h2
    cases h2
  have choice : ∀ i : Fin len, ∃ (x : α) (cs : List Value), w.cells? base (a.add (i.1 * P.cellsOf e)) (P.cellsOf e) = some cs ∧ R cs x := by
   intro i
   obtain ⟨cs, y, h1, h2, h3⟩ := key i.1 i.2
   obtain ⟨x, hx⟩ := hR n cs y (by omega) h2 h3
   exact ⟨x, cs, h1, hx⟩
  refine ⟨List.ofFn fun i => Classical.choose (choice i), ⟨some a, cap, by rw [List.length_ofFn], by rw [List.length_ofFn]; exact hl, ?_⟩, by rw [List.length_ofFn, ← hlen]; exact Nat.le_trans (Nat.mul_le_mul_right _ (by omega)) hwt.1⟩
  intro i x hi
  have hil : i < len := by have := (List.getElem?_eq_some_iff.1 hi).1; simpa using this
  rw [List.getElem?_ofFn] at hi
  simp only [hil, dite_true, Option.some.injEq] at hi
  subst hi
  obtain ⟨cs, h1, h2⟩ := Classical.choose_spec (choice ⟨i, hil⟩)
  obtain ⟨_, hlc, hat⟩ := World.cells?_some h1
  have hs0 := hspot (by omega)
  obtain ⟨b, o, s⟩ := a
  simp only at hs0
  subst hs0
  have hcell : ∀ (j : Nat) (u : Value), cs[j]? = some u → w.cell? ⟨b, o + i * P.cellsOf e + j, none⟩ = some u := by
   intro j u hu
   have hj : j < P.cellsOf e := by rw [← hlc]; exact (List.getElem?_eq_some_iff.1 hu).1
   have := hat j hj
   rw [Addr.add_lit, Addr.add_lit] at this
   rw [this, hu]
  refine ⟨b, o, rfl, ?_, cs, hlc, h2, hcell⟩
  have h0 : cs[0]? = some (cs[0]'(by omega)) := List.getElem?_eq_getElem (by omega)
  exact World.block_lt_of_cell? w _ (hcell 0 _ h0)
end
section
variable {H : Type} {enc : TypeId × Value → H} {P : Program}
end
end Go.Proofs.YtgidajjjpeboeaaGreatDoor
