/-
  yaml.emit and what it captures, walked: any value, laid into a Builder that is handed on by pointer.
-/
import Derived.Test.YtpcddcfpbohogaaDoorEm2
namespace Go.Proofs.YtpcddcfpbohogaaDoor
set_option linter.unusedSimpArgs false
set_option linter.unusedVariables false
open Go.RowKit

abbrev IsB (B b : Nat) (bs : List Value) (w : World) : Prop := Lib.IsBuilderF 85 5 B b bs w
theorem strCells_app (a b : ByteArray) : Lib.strCells (a ++ b) = Lib.strCells a ++ Lib.strCells b := cells_app a b
def EmitPost (B b : Nat) (bs : List Value) (s : ByteArray) (w : World) (e : Ending) (w' : World) : Prop :=
  e = .returned (.tuple #[]) ∧ IsB B b (bs ++ Lib.strCells s) w' ∧ Below B w w' ∧ Lib.OthersKept 5 (some b) w w'
def EmitOk (pr : V → ByteArray) (Gd : V → Prop) (n : Nat) : Prop :=
  ∀ (v : V) (k : Nat) (σ : Sg) (w : World) (u : Value) (B b : Nat) (bs : List Value), v.size ≤ n → Gd v → k + 2 * v.size ≤ 1000000 → (∀ w', Below B w w' → Holds σ w') → (∀ w', Below B w w' → GW w') → RelP σ u (.agg [.int .i64 (v).kind, .bool (v).b, .int .i64 (v).n, .str (v).s, .lst .any 6 (rowsV (v).l), .lst .any 7 (rowsM (v).m)]) → IsB B b bs w → B ≤ w.heap.size → bs.length + (v.lay wordB pr k).size ≤ 1000000000000 →
    Calls Tryd.prog 55 #[.pointer (some ⟨b, 0, none⟩), u, .int .i64 k] w (EmitPost B b bs (v.lay wordB pr k) w)
theorem ownsF_below {base size n : Nat} {e : TypeId} {v : Value} {xs : List Value} {w w' : World} {D : Nat} (h : w.ownsRowF base e size v n xs) (hb : Below D w w') (hD : w.heap.size ≤ D) : w'.ownsRowF base e size v n xs := by
  obtain ⟨h2, h3⟩ := h
  refine ⟨h2, ?_⟩
  rcases h3 with h3 | ⟨g, cap, cur, fz, hv, hg, hh, r⟩
  · exact .inl h3
  · exact .inr ⟨g, cap, cur, fz, hv, hg, by rw [hb.block g (Nat.lt_of_lt_of_le (Array.getElem?_eq_some_iff.1 hh).1 hD)]; exact hh, r⟩
theorem isB_below {D B b : Nat} {bs : List Value} {w w' : World} (h : IsB B b bs w) (hb : Below D w w') (hD : w.heap.size ≤ D) : IsB B b bs w' := by
  have key : ∀ p, Lib.BuilderAtF 85 5 B b p bs w → Lib.BuilderAtF 85 5 B b p bs w' := fun p h => by
    obtain ⟨h0, v, h1, h2, h4⟩ := h
    exact ⟨h0, v, by rw [hb.block b (Nat.lt_of_lt_of_le (Array.getElem?_eq_some_iff.1 h1).1 hD)]; exact h1, ownsF_below h2 hb hD, h4⟩
  exact h.imp (key _) (key _)
set_option maxHeartbeats 1000000 in
set_option maxRecDepth 100000 in
theorem tail_of {pr : V → ByteArray} {Gd : V → Prop} {n : Nat} (hE : EmitOk pr Gd n) (hP : ∀ v, Gd v → v.leaf = true → AC Tryd.prog 54 [.agg [.int .i64 (v).kind, .bool (v).b, .int .i64 (v).n, .str (v).s, .lst .any 6 (rowsV (v).l), .lst .any 7 (rowsM (v).m)]] (.str (pr v)))
    (x : V) (k : Nat) (σ : Sg) (w : World) (u : Value) (B b cb ci : Nat) (bs : List Value) (hx : x.size ≤ n) (hG : Gd x) (hk : k + 2 + 2 * x.size ≤ 1000000) (hh : ∀ w', Below B w w' → Holds σ w') (hg : ∀ w', Below B w w' → GW w') (hu : RelP σ u (.agg [.int .i64 (x).kind, .bool (x).b, .int .i64 (x).n, .str (x).s, .lst .any 6 (rowsV (x).l), .lst .any 7 (rowsM (x).m)])) (hI : IsB B b bs w) (hBw : B ≤ w.heap.size)
    (hb : w.heap[cb]? = some (.cells #[.pointer (some ⟨b, 0, none⟩)] 83 (0, 0))) (hi : w.heap[ci]? = some (.cells #[.int .i64 k] 3 (0, 0))) (nb : cb ≠ b) (ni : ci ≠ b)
    (hlen : bs.length + (x.tail wordB pr k).size ≤ 1000000000000) :
    Calls Tryd.prog 77 #[u, .pointer (some ⟨cb, 0, none⟩), .pointer (some ⟨ci, 0, none⟩)] w (EmitPost B b bs (x.tail wordB pr k) w) := by
  obtain ⟨A, C, c, d, rfl, hA, hC⟩ := val_open hu
  have HU := Lib.hid hu
  have HP := Lib.hid hP
  have HE := Lib.hid hE
  have HH := Lib.hid hh
  have HG := Lib.hid hg
  clear hu hP hE hA hC hh hg
  have ltb := (Array.getElem?_eq_some_iff.1 hb).1
  have lti := (Array.getElem?_eq_some_iff.1 hi).1
  have hB0 : Below w.heap.size w (w.alloc (Obj.cells #[.int .i64 (x).kind, .bool (x).b, .int .i64 (x).n, .string (x).s, .slice A (x).l.length c, .slice C (x).m.length d] 60)) := (Below.refl _ _).alloc (Nat.le_refl _) _
  have hb0 : (w.alloc (Obj.cells #[.int .i64 (x).kind, .bool (x).b, .int .i64 (x).n, .string (x).s, .slice A (x).l.length c, .slice C (x).m.length d] 60)).heap[cb]? = some (.cells #[.pointer (some ⟨b, 0, none⟩)] 83 (0, 0)) := (hB0.block cb ltb).trans hb
  have hi0 : (w.alloc (Obj.cells #[.int .i64 (x).kind, .bool (x).b, .int .i64 (x).n, .string (x).s, .slice A (x).l.length c, .slice C (x).m.length d] 60)).heap[ci]? = some (.cells #[.int .i64 k] 3 (0, 0)) := (hB0.block ci lti).trans hi
  have hx0 : (w.alloc (Obj.cells #[.int .i64 (x).kind, .bool (x).b, .int .i64 (x).n, .string (x).s, .slice A (x).l.length c, .slice C (x).m.length d] 60)).heap[w.heap.size]? = some (.cells #[.int .i64 (x).kind, .bool (x).b, .int .i64 (x).n, .string (x).s, .slice A (x).l.length c, .slice C (x).m.length d] 60 (0, 0)) := heap_alloc_new w _
  have hI0 := isB_below hI hB0 (Nat.le_refl _)
  have hBw0 : B ≤ (w.alloc (Obj.cells #[.int .i64 (x).kind, .bool (x).b, .int .i64 (x).n, .string (x).s, .slice A (x).l.length c, .slice C (x).m.length d] 60)).heap.size := Nat.le_trans hBw hB0.size
  have hne : w.heap.size ≠ b := by
    rcases hI with h | h
    · have := h.lt; omega
    · have := h.lt; omega
  have hBB : Below B w (w.alloc (Obj.cells #[.int .i64 (x).kind, .bool (x).b, .int .i64 (x).n, .string (x).s, .slice A (x).l.length c, .slice C (x).m.length d] 60)) := hB0.mono hBw
  have hKK : Lib.OthersKept 5 (some b) w (w.alloc (Obj.cells #[.int .i64 (x).kind, .bool (x).b, .int .i64 (x).n, .string (x).s, .slice A (x).l.length c, .slice C (x).m.length d] 60)) := kept_of_below hB0
  have hlc := (show (x.l.length : Int) + (x.m.length : Int) ≤ 1000000 by have := x.size_eq; have := len_le_sizeL x.l; have := len_le_sizeM x.m; omega)
  cases hlf : x.leaf with
  | true =>
    have hq : (wrap64 ((x.l.length : Int) + (x.m.length : Int)) == 0) = true := by
      have := leaf_iff.1 hlf
      rw [show ((x.l.length : Int) + (x.m.length : Int)) = 0 by omega]; simp [wrap64]
    have ht : x.tail wordB pr k = ⟨#[32]⟩ ++ pr x ++ ⟨#[10]⟩ := by rw [V.tail, if_pos hlf]
    rw [ht] at hlen ⊢
    have hz : (⟨#[32]⟩ ++ pr x ++ ⟨#[10]⟩ : ByteArray).size = 1 + (pr x).size + 1 := by rw [ByteArray.size_append, ByteArray.size_append]; rfl
    have c0 : (w.alloc (Obj.cells #[.int .i64 (x).kind, .bool (x).b, .int .i64 (x).n, .string (x).s, .slice A (x).l.length c, .slice C (x).m.length d] 60)).drew.cell? ⟨cb, 0, none⟩ = some (.pointer (some ⟨b, 0, none⟩)) := (Lib.cell_of_heap hb0 0).trans rfl
    have hI1 : IsB B b bs (w.alloc (Obj.cells #[.int .i64 (x).kind, .bool (x).b, .int .i64 (x).n, .string (x).s, .slice A (x).l.length c, .slice C (x).m.length d] 60)).drew := isB_below hI0 (Below.refl _ _).drew (Nat.le_refl _)
    have hPr : ∀ w', Below B w w' → Calls Tryd.prog 54 #[.agg #[.int .i64 (x).kind, .bool (x).b, .int .i64 (x).n, .string (x).s, .slice A (x).l.length c, .slice C (x).m.length d]] w' fun e w2 => e = .returned (.string (pr x)) ∧ Below w'.heap.size w' w2 := fun w' hbb => ac_str (HP.out x hG hlf) (vs := [.agg #[.int .i64 (x).kind, .bool (x).b, .int .i64 (x).n, .string (x).s, .slice A (x).l.length c, .slice C (x).m.length d]]) (HH.out w' hbb) ⟨rfl, fun j v a hv ha => by
      rcases j with _ | j <;> simp at hv ha
      subst hv ha
      exact HU.out⟩ (HG.out w' hbb)
    have HPr := Lib.hid hPr
    clear hPr hb hi hI hI0 hx0 hi0 hb0 hlc
    go_enter Tryd.func77, Tryd.ntmps77
    go_wp2_with fail
    go_region_with (first | (go_at_call 54; refine (HPr.out _ ?_).mono ?_; exact hBB.drew; rintro e w2 ⟨rfl, hb2⟩; have c2 := (hb2.cell (p := ⟨cb, 0, none⟩) (Nat.lt_of_lt_of_le ltb hB0.size)).trans c0) | (go_at_call 78; have hq2 := Tryd.writeString_k B b bs (⟨#[32]⟩ ++ pr x ++ ⟨#[10]⟩) w2 (isB_below hI1 hb2 (Nat.le_refl _)) (by omega) (Nat.le_trans hBw0 hb2.size); refine hq2.mono ?_; clear hq2; rintro e w3 ⟨rfl, h3, b3, k3⟩) | fail)
    all_goals go_wp2
    all_goals refine bodyPost_ret (results_none rfl _ _ _) rfl ?_
    all_goals exact ⟨rfl, .inr h3, (hBB.drew.trans (hb2.mono hBw0)).trans b3, (hKK.drew.trans (kept_of_below hb2)).trans k3⟩
  | false =>
    have hq : (wrap64 ((x.l.length : Int) + (x.m.length : Int)) == 0) = false := by
      have : ¬ x.l.length + x.m.length = 0 := fun h => by rw [leaf_iff.2 h] at hlf; cases hlf
      rw [beq_eq_false_iff_ne, wrap64]; omega
    have ht : x.tail wordB pr k = ⟨#[10]⟩ ++ x.lay wordB pr (k + 2) := by rw [V.tail, if_neg (by rw [hlf]; simp)]
    rw [ht] at hlen ⊢
    have hz : (⟨#[10]⟩ ++ x.lay wordB pr (k + 2) : ByteArray).size = 1 + (x.lay wordB pr (k + 2)).size := by rw [ByteArray.size_append]; rfl
    have c0 : (w.alloc (Obj.cells #[.int .i64 (x).kind, .bool (x).b, .int .i64 (x).n, .string (x).s, .slice A (x).l.length c, .slice C (x).m.length d] 60)).cell? ⟨cb, 0, none⟩ = some (.pointer (some ⟨b, 0, none⟩)) := (Lib.cell_of_heap hb0 0).trans rfl
    clear hlc
    go_enter Tryd.func77, Tryd.ntmps77
    go_wp2_with fail
    have hq2 := Tryd.writeString_k B b bs ⟨#[10]⟩ _ hI0 (by have : (ByteArray.mk #[10]).size = 1 := rfl; omega) hBw0
    refine hq2.mono ?_
    rintro e w2 ⟨rfl, h2, b2, k2⟩
    have xb := kept_block k2 hb0 (by decide) nb
    have xi := kept_block k2 hi0 (by decide) ni
    have xx := kept_block k2 hx0 (by decide) hne
    have d0 : w2.cell? ⟨cb, 0, none⟩ = some (.pointer (some ⟨b, 0, none⟩)) := (Lib.cell_of_heap xb 0).trans rfl
    have d1 : w2.cell? ⟨ci, 0, none⟩ = some (.int .i64 k) := (Lib.cell_of_heap xi 0).trans rfl
    have e0 := Lib.cell_of_heap xx 0
    have e1 := Lib.cell_of_heap xx 1
    have e2 := Lib.cell_of_heap xx 2
    have e3 := Lib.cell_of_heap xx 3
    have e4 := Lib.cell_of_heap xx 4
    have e5 := Lib.cell_of_heap xx 5
    simp only [List.getElem?_toArray, List.getElem?_cons_zero, List.getElem?_cons_succ] at e0 e1 e2 e3 e4 e5
    clear xb xi xx hb hi hI hI0 hx0 hi0 hb0 hq2
    go_wp2_with fail
    have hE2 := HE.out x (k + 2) σ w2 (.agg #[.int .i64 (x).kind, .bool (x).b, .int .i64 (x).n, .string (x).s, .slice A (x).l.length c, .slice C (x).m.length d]) B b (bs ++ Lib.strCells ⟨#[10]⟩) hx hG (by omega) (fun w' hb' => HH.out w' ((hBB.trans b2).trans hb')) (fun w' hb' => HG.out w' ((hBB.trans b2).trans hb')) HU.out (.inr h2) (hBB.trans b2 |>.size |> Nat.le_trans hBw) (by rw [List.length_append, Lib.strCells_length]; show _ + 1 + _ ≤ _; omega)
    rw [show ((k + 2 : Nat) : Int) = (k : Int) + 2 by omega] at hE2
    refine hE2.mono ?_
    rintro e w3 ⟨rfl, h3, b3, k3⟩
    go_wp2
    refine bodyPost_ret (results_none rfl _ _ _) rfl ?_
    exact ⟨rfl, by rw [strCells_app, ← List.append_assoc]; exact h3, (hBB.trans b2).trans b3, (hKK.trans k2).trans k3⟩
end Go.Proofs.YtpcddcfpbohogaaDoor
