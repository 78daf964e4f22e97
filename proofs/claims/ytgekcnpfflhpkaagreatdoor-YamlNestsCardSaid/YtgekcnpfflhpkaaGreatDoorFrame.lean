/-
  From a call's contract to the row's 'post': laws that return true and leave what was there as it was; a slice that came in, as a list.
-/
import Derived.Test.YtgekcnpfflhpkaaGreatDoorLaws
import Derived.ProofKit
import Derived.SizedLaws
import Derived.Deep.Slices
namespace Go.Proofs.YtgekcnpfflhpkaaGreatDoor
set_option linter.unusedSimpArgs false
set_option linter.unusedVariables false
open Go.ChangeShapes Go.WideShapes Go.ChangeAt Go.RowKit Go.Deep

section
variable {H : Type} {enc : TypeId × Value → H} {P : Program}

theorem trodAll_below (hl : laidOutB P = true) {W W' : World} (hb : Below W.heap.size W W') : ∀ (ts : List TypeId) (vs : List Value) (ds : List (DataW H)) (p : List MemPlace),
    (∀ t ∈ ts, P.readableRec t = true ∧ t < P.types.size) → DataW.TrodAll enc P W 0 (fun _ => true) true ts vs ds p → (∀ x ∈ p, x.block < W.heap.size) →
    DataW.TrodAll enc P W' 0 (fun b => decide (b < W.heap.size)) true ts vs ds p
  | [], vs, ds, p, _, h, _ => by
    obtain ⟨rfl, rfl, rfl⟩ := trodAll_nil h
    exact rfl
  | t :: ts, vs, ds, p, ht, h, hlt => by
    obtain ⟨v, vs', d, ds', p', q, rfl, rfl, rfl, h1, h2⟩ := trodAll_cons h
    exact ⟨p', q, Below.trod hl (ht t (by simp)).1 (ht t (by simp)).2 h1 hb (fun x hx => hlt x (by simp [hx])),
      trodAll_below hl hb ts vs' ds' q (fun t' h' => ht t' (by simp [h'])) h2 (fun x hx => hlt x (by simp [hx])), rfl⟩

theorem law_post {f : Func} {s : ChangeSpec} {tb : TypeId} (hl : laidOutB P = true) (hr : (f.params.toList.all fun t => P.readableRec t && decide (t < P.types.size)) = true) (hres : f.resultTypes = #[tb]) (hB : P.underlying tb = some .bool)
    (hv : s.vars = []) {W W' : World} {args : Array Value} {ds gs : List (DataW H)} {before : List MemPlace} (hW : DataW.Whole enc P f.params.toList s.vars false W args.toList ds gs before)
    (hs : s.fn H (ds ++ []) = { results := [.lit (.bool true)], args := ds }) (hb : Below W.heap.size W W') : s.post enc P f false true false false W args (.bool true) W' := by
  have hW' := hW
  obtain ⟨p, q, hA, hV, rfl, hfz, hnd⟩ := hW
  rw [hv] at hV
  obtain ⟨rfl, rfl⟩ := trodVars_none hV
  have e := hs
  have hlt : ∀ x ∈ p, x.block < W.heap.size := fun x hx => hW'.lt x (by simp [hx])
  refine ⟨ds, [], p ++ [], [], p, [], hW', ?_, ?_, ?_, hb.frame _, fun h => by cases h⟩
  · rw [e, hres]; exact trodAll_mk1 (shut_bool hB _)
  · rw [e]
    exact trodAll_below hl hb _ _ _ _ (fun t ht => by
      have := List.all_eq_true.1 hr t ht
      simpa using this) hA hlt
  · rw [e, hv]; exact rfl

end
theorem list6 {α : Type} {l : List α} (h : l.length = 6) : ∃ a b c d e f, l = [a, b, c, d, e, f] := by
  rcases l with _ | ⟨a, _ | ⟨b, _ | ⟨c, _ | ⟨d, _ | ⟨e, _ | ⟨f, _ | ⟨g, l⟩⟩⟩⟩⟩⟩⟩ <;> simp at h
  exact ⟨a, b, c, d, e, f, rfl⟩
theorem list7 {α : Type} {l : List α} (h : l.length = 7) : ∃ a b c d e f g, l = [a, b, c, d, e, f, g] := by
  rcases l with _ | ⟨a, l⟩
  · simp at h
  · obtain ⟨b, c, d, e, f, g, rfl⟩ := list6 (l := l) (by simpa using h)
    exact ⟨a, b, c, d, e, f, g, rfl⟩

section
variable {H : Type} {enc : TypeId × Value → H} {P : Program}
/-- a slice that came in, as a list -/
theorem sl_of_trod {α : Type} {R : List Value → α → Prop} {w : World} {base : Nat} {spare : Nat → Bool} {held : Bool} {t e : TypeId} {size : Nat} (ht : P.underlying t = some (.slice e)) (hC : P.cellsOf e = size) (hsz : 0 < size)
    {v : Value} {fuel : Nat} {x : DataW H × List MemPlace} (h : DataW.trod enc P w base spare held fuel t [v] = some x) (hR : ∀ n cs y, n < fuel → DataW.trod enc P w base spare held n e cs = some y → ∃ a, R cs a) :
    ∃ l : List α, Sl size R w w.heap.size v l ∧ ((x.1 = .nil ∧ l = []) ∨ ∃ elems sp, x.1 = .slice elems sp ∧ elems.length = l.length) := by
  rcases DataW.trod_slice ht h with ⟨hcs, hx⟩ | ⟨a, len, cap, elems, rest, n, hn, hcs, hx, hb, hl, hm, hlen, hel, hsp, hns⟩
  · injection hcs with hcs
    subst hcs
    exact ⟨[], Sl.nil _ _, .inl ⟨by rw [hx], rfl⟩⟩
  · injection hcs with hcs
    subst hcs hC
    have key : ∀ i, i < len → ∃ cs y, w.cells? base (a.add (i * P.cellsOf e)) (P.cellsOf e) = some cs ∧ DataW.trod enc P w base spare held n e cs = some y := by
      intro i hi
      have h1 := hel i hi
      have : elems[i]? = some (elems[i]'(by omega)) := List.getElem?_eq_getElem (by omega)
      rw [this] at h1
      obtain ⟨cs, h2, h3⟩ := Option.bind_eq_some_iff.1 h1
      exact ⟨cs, _, h2, h3⟩
    have hspot : 0 < len → a.spot = none := by
      intro h0
      obtain ⟨cs, y, h1, _⟩ := key 0 h0
      obtain ⟨_, hlc, hat⟩ := World.cells?_some h1
      have h2 := hat 0 hsz
      have e1 : (a.add (0 * P.cellsOf e)).add 0 = a := by simp [Addr.add]
      rw [e1] at h2
      cases hsp : a.spot with
      | none => rfl
      | some s =>
        have : w.cell? a = none := by
          unfold World.cell?
          split
          · simp [hsp]
          · rfl
        rw [this] at h2
        have : cs[0]? = some (cs[0]'(by omega)) := List.getElem?_eq_getElem (by omega)
        rw [this] at h2
        cases h2
    have choice : ∀ i : Fin len, ∃ (x : α) (cs : List Value), w.cells? base (a.add (i.1 * P.cellsOf e)) (P.cellsOf e) = some cs ∧ R cs x := by
      intro i
      obtain ⟨cs, y, h1, h2⟩ := key i.1 i.2
      obtain ⟨x, hx⟩ := hR n cs y (by omega) h2
      exact ⟨x, cs, h1, hx⟩
    refine ⟨List.ofFn fun i => Classical.choose (choice i), ⟨some a, cap, by rw [List.length_ofFn], by rw [List.length_ofFn]; exact hl, ?_⟩, .inr ⟨elems.map (·.1), rest.map (·.1), by rw [hx], by simp [hlen]⟩⟩
    intro i x hi
    have hil : i < len := by have := (List.getElem?_eq_some_iff.1 hi).1; simpa using this
    rw [List.getElem?_ofFn] at hi
    simp only [hil, dite_true, Option.some.injEq] at hi
    subst hi
    obtain ⟨cs, h1, h2⟩ := Classical.choose_spec (choice ⟨i, hil⟩)
    obtain ⟨_, hlc, hat⟩ := World.cells?_some h1
    have hs0 := hspot (by omega)
    obtain ⟨b, o, s⟩ := a
    simp only at hs0
    subst hs0
    have hcell : ∀ (j : Nat) (u : Value), cs[j]? = some u → w.cell? ⟨b, o + i * P.cellsOf e + j, none⟩ = some u := by
      intro j u hu
      have hj : j < P.cellsOf e := by rw [← hlc]; exact (List.getElem?_eq_some_iff.1 hu).1
      have := hat j hj
      rw [Addr.add_lit, Addr.add_lit] at this
      rw [this, hu]
    refine ⟨b, o, rfl, ?_, cs, hlc, h2, hcell⟩
    have h0 : cs[0]? = some (cs[0]'(by omega)) := List.getElem?_eq_getElem (by omega)
    exact World.block_lt_of_cell? w _ (hcell 0 _ h0)
end
end Go.Proofs.YtgekcnpfflhpkaaGreatDoor
