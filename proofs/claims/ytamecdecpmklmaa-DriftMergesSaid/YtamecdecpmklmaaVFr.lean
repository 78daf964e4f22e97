/-
  What the laws on values take in: a value of the document's, as one of ours.
-/
import Derived.Test.YtamecdecpmklmaaRows
import Derived.Test.YtamecdecpmklmaaPr8
import Derived.Test.YtamecdecpmklmaaFrame
namespace Go.Proofs.Ytamecdecpmklmaa
set_option linter.unusedSimpArgs false
set_option linter.unusedVariables false
open Go.ChangeShapes Go.WideShapes Go.ChangeAt Go.RowKit Go.Deep

theorem own : ownKnob Try.prog.godebug = none := by kernel_rfl
theorem laidOut : laidOutB Try.prog = true := by kernel_rfl
/-- all that lies in memory -/
def σW (w : World) : Sg := fun b o => w.cell? ⟨b, o, none⟩
theorem holds_all (w : World) : Holds (σW w) w := fun _ _ _ h => h
theorem rel_of_sl {α : Type} {R : List Value → α → Prop} {w : World} {B size : Nat} {v : Value} {l : List α} (h : Sl size R w B v l) (row : α → List AV) (hR : ∀ cs x, R cs x → RelL (σW w) cs (row x)) : Rel1 (σW w) v (.lst .any size (l.map row)) := by
  obtain ⟨A, cap, rfl, hcap, hat⟩ := h
  cases l with
  | nil => exact .lst .any size [] A 0 cap 0 0 (fun _ _ => undef) rfl (by omega) (fun h => by omega) (fun i c h => by simp at h) (fun i j h => by omega) (fun i j c a h => by simp at h) trivial
  | cons x0 l0 =>
    obtain ⟨b, o, hA, _⟩ := hat 0 x0 rfl
    subst hA
    have key : ∀ (i : Nat) x, (x0 :: l0)[i]? = some x → ∃ cs : List Value, cs.length = size ∧ R cs x ∧ ∀ (j : Nat) u, cs[j]? = some u → w.cell? ⟨b, o + i * size + j, none⟩ = some u := by
      intro i x hi
      obtain ⟨b', o', hA, _, cs, h1, h2, h3⟩ := hat i x hi
      injection hA with hA
      injection hA with e1 e2
      subst e1 e2
      exact ⟨cs, h1, h2, h3⟩
    refine .lst .any size _ _ _ cap b o (fun i j => (w.cell? ⟨b, o + i * size + j, none⟩).getD undef) (by simp) hcap (fun _ => rfl) (fun i c hc => ?_) (fun i j hi hj => ?_) (fun i j c a hc ha => ?_) trivial
    · rw [List.getElem?_map] at hc
      cases hx : (x0 :: l0)[i]? with
      | none => rw [hx] at hc; cases hc
      | some x =>
        rw [hx] at hc
        cases hc
        obtain ⟨cs, h1, h2, _⟩ := key i x hx
        rw [← (hR cs x h2).1, h1]
    · obtain ⟨cs, h1, h2, h3⟩ := key i _ (List.getElem?_eq_getElem hi)
      have h4 := h3 j _ (List.getElem?_eq_getElem (by omega))
      simp only [σW, h4, Option.getD_some]
    · rw [List.getElem?_map] at hc
      cases hx : (x0 :: l0)[i]? with
      | none => rw [hx] at hc; cases hc
      | some x =>
        rw [hx] at hc
        cases hc
        obtain ⟨cs, h1, h2, h3⟩ := key i x hx
        obtain ⟨u, hu, hr⟩ := (hR cs x h2).at_ ha
        rw [h3 j u hu]
        exact hr
section
variable {H : Type} {enc : TypeId × Value → H} {P : Program}
def WtOk (P : Program) (t : TypeId) (d : DataW H) : Prop := ∀ q ∈ d.weights P t, q ≤ reachBytes
theorem WtOk.part {t : TypeId} {fs : Array Field} (ht : P.underlying t = some (.struct fs)) {xs : List (DataW H × List MemPlace)} (h : WtOk P t (.agg (xs.map (·.1)))) {j : Nat} {f : Field} (hf : fs[j]? = some f) {x : DataW H × List MemPlace} (hx : xs[j]? = some x) : WtOk P f.type x.1 := by
  intro q hq
  refine h q ?_
  unfold DataW.weights
  rw [ht]
  exact DataW.weights_mem_each (j := j) (by simp [hf]) (by simp [hx]) q hq
theorem weightsAll_mem {e : TypeId} : ∀ {ds : List (DataW H)} {d : DataW H}, d ∈ ds → ∀ q ∈ d.weights P e, q ∈ DataW.weightsAll P e ds
  | d' :: ds, d, hd, q, hq => by
    unfold DataW.weightsAll
    rcases List.mem_cons.1 hd with rfl | hd
    · exact List.mem_append_left _ hq
    · exact List.mem_append_right _ (weightsAll_mem hd q hq)
/-- a slice that came in, as a list; its weights -/
theorem sl_of_trodW {α : Type} {R : List Value → α → Prop} {w : World} {base : Nat} {spare : Nat → Bool} {held : Bool} {t e : TypeId} {size : Nat} (ht : P.underlying t = some (.slice e)) (hC : P.cellsOf e = size) (hsz : 0 < size)
    {v : Value} {fuel : Nat} {x : DataW H × List MemPlace} (h : DataW.trod enc P w base spare held fuel t [v] = some x) (hw : WtOk P t x.1) (hR : ∀ n cs y, n < fuel → DataW.trod enc P w base spare held n e cs = some y → WtOk P e y.1 → ∃ a, R cs a) :
    ∃ l : List α, Sl size R w w.heap.size v l ∧ l.length * P.bytesOf e ≤ reachBytes := by
  rcases DataW.trod_slice ht h with ⟨hcs, hx⟩ | ⟨a, len, cap, elems, rest, n, hn, hcs, hx, hb, hl, hm, hlen, hel, hsp, hns⟩
  · injection hcs with hcs
    subst hcs
    exact ⟨[], Sl.nil _ _, by simp⟩
  · injection hcs with hcs
    subst hcs hC
    have hwt : (elems.length + rest.length) * P.bytesOf e ≤ reachBytes ∧ ∀ y ∈ elems, WtOk P e y.1 := by
      rw [hx] at hw
      unfold WtOk DataW.weights at hw
      simp only [ht] at hw
      refine ⟨by simpa using hw _ (List.mem_cons_self ..), fun y hy q hq => hw q (List.mem_cons_of_mem _ (List.mem_append_left _ (weightsAll_mem (List.mem_map_of_mem hy) q hq)))⟩
    have key : ∀ i, i < len → ∃ cs y, w.cells? base (a.add (i * P.cellsOf e)) (P.cellsOf e) = some cs ∧ DataW.trod enc P w base spare held n e cs = some y ∧ WtOk P e y.1 := by
      intro i hi
      have h1 := hel i hi
      have h0 : elems[i]? = some (elems[i]'(by omega)) := List.getElem?_eq_getElem (by omega)
      rw [h0] at h1
      obtain ⟨cs, h2, h3⟩ := Option.bind_eq_some_iff.1 h1
      exact ⟨cs, _, h2, h3, hwt.2 _ (List.mem_of_getElem? h0)⟩
    have hspot : 0 < len → a.spot = none := by
      intro h0
      obtain ⟨cs, y, h1, _⟩ := key 0 h0
      obtain ⟨_, hlc, hat⟩ := World.cells?_some h1
      have h2 := hat 0 hsz
      have e1 : (a.add (0 * P.cellsOf e)).add 0 = a := by simp [Addr.add]
      rw [e1] at h2
      cases hsp : a.spot with
      | none => rfl
      | some s =>
        have : w.cell? a = none := by
          unfold World.cell?
          split
          · simp [hsp]
          · rfl
        rw [this] at h2
        have : cs[0]? = some (cs[0]'(by omega)) := List.getElem?_eq_getElem (by omega)
        rw [this] at h2
        cases h2
    have choice : ∀ i : Fin len, ∃ (x : α) (cs : List Value), w.cells? base (a.add (i.1 * P.cellsOf e)) (P.cellsOf e) = some cs ∧ R cs x := by
      intro i
      obtain ⟨cs, y, h1, h2, h3⟩ := key i.1 i.2
      obtain ⟨x, hx⟩ := hR n cs y (by omega) h2 h3
      exact ⟨x, cs, h1, hx⟩
    refine ⟨List.ofFn fun i => Classical.choose (choice i), ⟨some a, cap, by rw [List.length_ofFn], by rw [List.length_ofFn]; exact hl, ?_⟩, by rw [List.length_ofFn, ← hlen]; exact Nat.le_trans (Nat.mul_le_mul_right _ (by omega)) hwt.1⟩
    intro i x hi
    have hil : i < len := by have := (List.getElem?_eq_some_iff.1 hi).1; simpa using this
    rw [List.getElem?_ofFn] at hi
    simp only [hil, dite_true, Option.some.injEq] at hi
    subst hi
    obtain ⟨cs, h1, h2⟩ := Classical.choose_spec (choice ⟨i, hil⟩)
    obtain ⟨_, hlc, hat⟩ := World.cells?_some h1
    have hs0 := hspot (by omega)
    obtain ⟨b, o, s⟩ := a
    simp only at hs0
    subst hs0
    have hcell : ∀ (j : Nat) (u : Value), cs[j]? = some u → w.cell? ⟨b, o + i * P.cellsOf e + j, none⟩ = some u := by
      intro j u hu
      have hj : j < P.cellsOf e := by rw [← hlc]; exact (List.getElem?_eq_some_iff.1 hu).1
      have := hat j hj
      rw [Addr.add_lit, Addr.add_lit] at this
      rw [this, hu]
    refine ⟨b, o, rfl, ?_, cs, hlc, h2, hcell⟩
    have h0 : cs[0]? = some (cs[0]'(by omega)) := List.getElem?_eq_getElem (by omega)
    exact World.block_lt_of_cell? w _ (hcell 0 _ h0)
end
theorem cellsTV : Try.prog.cellsOf 27 = 6 := by kernel_rfl
theorem cellsTP : Try.prog.cellsOf 59 = 7 := by kernel_rfl
theorem bytesTV : Try.prog.bytesOf 27 = 88 := by kernel_rfl
theorem bytesTP : Try.prog.bytesOf 59 = 104 := by kernel_rfl
theorem rowsV_map (l : List V) : rowsV l = l.map cellsV := by
  induction l with
  | nil => rfl
  | cons x l ih => simp [rowsV, ih]
theorem rowsM_map (l : List (ByteArray × V)) : rowsM l = l.map fun p => .str p.1 :: cellsV p.2 := by
  induction l with
  | nil => rfl
  | cons x l ih => obtain ⟨y, x⟩ := x; simp [rowsM, ih]
theorem reach47 : reachBytes ≤ 140737488355328 := by decide
theorem str_wt {H : Type} {s : ByteArray} (h : WtOk (H := H) Try.prog 9 (.lit (.string s.data.toList))) : s.size ≤ 140737488355328 := by
  have := h s.data.toList.length (by simp [DataW.weights])
  have h2 := reach47
  have e : s.data.toList.length = s.size := by simp
  omega
theorem cellsI : Try.prog.cellsOf 3 = 1 := by kernel_rfl
theorem cellsI64 : Try.prog.cellsOf 2 = 1 := by kernel_rfl
theorem cellsB : Try.prog.cellsOf 4 = 1 := by kernel_rfl
theorem cellsS : Try.prog.cellsOf 9 = 1 := by kernel_rfl
theorem cellsLV : Try.prog.cellsOf 24 = 1 := by kernel_rfl
theorem cellsLP : Try.prog.cellsOf 25 = 1 := by kernel_rfl
theorem sl_all {α : Type} {size : Nat} {R : List Value → α → Prop} {w : World} {B : Nat} {v : Value} {l : List α} (h : Sl size R w B v l) {x : α} (hx : x ∈ l) : ∃ cs, R cs x := by
  obtain ⟨A, cap, _, _, hat⟩ := h
  obtain ⟨i, hi⟩ := List.getElem?_of_mem hx
  obtain ⟨_, _, _, _, cs, _, h2, _⟩ := hat i x hi
  exact ⟨cs, h2⟩
theorem val_of_trod {H : Type} {enc : TypeId × Value → H} {w : World} {base : Nat} {spare : Nat → Bool} {held : Bool} : ∀ (n : Nat) (cs : List Value) (y : DataW H × List MemPlace),
    DataW.trod enc Try.prog w base spare held n 27 cs = some y → WtOk Try.prog 27 y.1 → ∃ v : V, RelL (σW w) cs (cellsV v) ∧ v.sb := by
  intro n
  induction n using Nat.strongRecOn with
  | _ n ih =>
    intro cs y h hw
    obtain ⟨xs, m, hm, hy, hl, hxl, hf⟩ := DataW.trod_struct Try.underlying27 h
    rw [cellsTV] at hl
    obtain ⟨c0, c1, c2, c3, c4, c5, rfl⟩ := list6 hl
    obtain ⟨x0, x1, x2, x3, x4, x5, rfl⟩ := list6 (show xs.length = 6 from hxl)
    rw [hy] at hw
    have f0 : DataW.trod enc Try.prog w base spare held m 3 (List.take (Try.prog.cellsOf 3) (List.drop 0 [c0, c1, c2, c3, c4, c5])) = some x0 := hf 0 _ rfl
    have f1 : DataW.trod enc Try.prog w base spare held m 4 (List.take (Try.prog.cellsOf 4) (List.drop 1 [c0, c1, c2, c3, c4, c5])) = some x1 := hf 1 _ rfl
    have f2 : DataW.trod enc Try.prog w base spare held m 2 (List.take (Try.prog.cellsOf 2) (List.drop 2 [c0, c1, c2, c3, c4, c5])) = some x2 := hf 2 _ rfl
    have f3 : DataW.trod enc Try.prog w base spare held m 9 (List.take (Try.prog.cellsOf 9) (List.drop 3 [c0, c1, c2, c3, c4, c5])) = some x3 := hf 3 _ rfl
    have f4 : DataW.trod enc Try.prog w base spare held m 24 (List.take (Try.prog.cellsOf 24) (List.drop 4 [c0, c1, c2, c3, c4, c5])) = some x4 := hf 4 _ rfl
    have f5 : DataW.trod enc Try.prog w base spare held m 25 (List.take (Try.prog.cellsOf 25) (List.drop 5 [c0, c1, c2, c3, c4, c5])) = some x5 := hf 5 _ rfl
    have w3 : WtOk Try.prog 9 x3.1 := WtOk.part Try.underlying27 hw (j := 3) rfl rfl
    have w4 : WtOk Try.prog 24 x4.1 := WtOk.part Try.underlying27 hw (j := 4) rfl rfl
    have w5 : WtOk Try.prog 25 x5.1 := WtOk.part Try.underlying27 hw (j := 5) rfl rfl
    simp only [cellsI, cellsI64, cellsB, cellsS, cellsLV, cellsLP, List.drop_succ_cons, List.drop_zero, List.take_succ_cons, List.take_zero] at f0 f1 f2 f3 f4 f5
    obtain ⟨k, e0, _⟩ := DataW.trod_int Try.underlying3 f0
    obtain ⟨b, e1, _⟩ := DataW.trod_bool Try.underlying4 f1
    obtain ⟨i, e2, _⟩ := DataW.trod_int Try.underlying2 f2
    obtain ⟨s, e3, hx3, _⟩ := DataW.trod_string Try.underlying9 f3
    injection e0 with e0; injection e1 with e1; injection e2 with e2; injection e3 with e3
    subst e0 e1 e2 e3
    rw [hx3] at w3
    obtain ⟨l, hl1, hl2⟩ := sl_of_trodW (R := fun cs (v : V) => RelL (σW w) cs (cellsV v) ∧ v.sb) Try.underlying24 cellsTV (by decide) f4 w4 (fun n' cs y hn h hw => ih n' (by omega) cs y h hw)
    obtain ⟨mm, hm1, hm2⟩ := sl_of_trodW (R := fun cs (p : ByteArray × V) => RelL (σW w) cs (.str p.1 :: cellsV p.2) ∧ p.1.size ≤ 140737488355328 ∧ p.2.sb) Try.underlying25 cellsTP (by decide) f5 w5 (fun n' cs y hn h hw => by
      obtain ⟨xs, m', hm', hy, hl, hxl, hf⟩ := DataW.trod_struct Try.underlying59 h
      rw [cellsTP] at hl
      obtain ⟨d0, d1, d2, d3, d4, d5, d6, rfl⟩ := list7 hl
      obtain ⟨z0, z1, rfl⟩ : ∃ a b, xs = [a, b] := by
        have hxl : xs.length = 2 := hxl
        rcases xs with _ | ⟨a, _ | ⟨b, _ | ⟨c, l⟩⟩⟩ <;> simp at hxl
        exact ⟨a, b, rfl⟩
      rw [hy] at hw
      have g0 : DataW.trod enc Try.prog w base spare held m' 9 (List.take (Try.prog.cellsOf 9) (List.drop 0 [d0, d1, d2, d3, d4, d5, d6])) = some z0 := hf 0 _ rfl
      have g1 : DataW.trod enc Try.prog w base spare held m' 27 (List.take (Try.prog.cellsOf 27) (List.drop 1 [d0, d1, d2, d3, d4, d5, d6])) = some z1 := hf 1 _ rfl
      have v0 : WtOk Try.prog 9 z0.1 := WtOk.part Try.underlying59 hw (j := 0) rfl rfl
      have v1 : WtOk Try.prog 27 z1.1 := WtOk.part Try.underlying59 hw (j := 1) rfl rfl
      simp only [cellsS, cellsTV, List.drop_succ_cons, List.drop_zero, List.take_succ_cons, List.take_zero] at g0 g1
      obtain ⟨y, e0, hz0, _⟩ := DataW.trod_string Try.underlying9 g0
      injection e0 with e0
      subst e0
      rw [hz0] at v0
      obtain ⟨v, hv1, hv2⟩ := ih m' (by omega) _ z1 g1 v1
      exact ⟨(y, v), .cons (.str y) hv1, str_wt v0, hv2⟩)
    rw [bytesTV] at hl2
    rw [bytesTP] at hm2
    have h47 := reach47
    refine ⟨.mk k b i s l mm, ?_, ?_⟩
    · rw [cellsV]
      refine .cons (.int _ _) (.cons (.bool _) (.cons (.int _ _) (.cons (.str _) (.cons ?_ (.cons ?_ .nil)))))
      · rw [rowsV_map]; exact rel_of_sl hl1 cellsV fun cs x h => h.1
      · rw [rowsM_map]; exact rel_of_sl hm1 (fun p => .str p.1 :: cellsV p.2) fun cs x h => h.1
    · rw [V.sb]
      refine ⟨str_wt w3, ⟨by omega, by omega⟩, (sbL_iff l).2 fun x hx => ?_, (sbM_iff mm).2 fun p hp => ?_⟩
      · obtain ⟨cs, h⟩ := sl_all hl1 hx; exact h.2
      · obtain ⟨cs, h⟩ := sl_all hm1 hp; exact h.2
end Go.Proofs.Ytamecdecpmklmaa
