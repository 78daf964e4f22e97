/-
  The abstract walk: what is known may be said with less; a contract out of a function's walk.
-/
import Derived.Test.YtpcddcfpbohogaaDoorAE
namespace Go.Proofs.YtpcddcfpbohogaaDoor
set_option linter.unusedSimpArgs false
set_option linter.unusedVariables false
open Go.RowKit

/-- the second says less of one cell -/
inductive AVle1 (st : St) : AV → AV → Prop where
  | refl (a : AV) : AVle1 st a a
  | any (t : Tag) (esz : Nat) (l : List (List AV)) : AVle1 st (.lst t esz l) (.lst .any esz l)
  | own (s v esz : Nat) (l : List (List AV)) : AVle1 st (.lst .nil esz l) (.lst (.own s v) esz l)
  | ownF (s v esz : Nat) (l : List (List AV)) : AVle1 st (.lst .full esz l) (.lst (.own s v) esz l)
  | frz (id esz cap : Nat) (rows : List (List AV)) (sp : List AV) (hb : st.box id = some (rows.flatten ++ sp, true)) (hro : RowsOk esz rows) : AVle1 st (.sli id esz rows.length cap) (.lst .any esz rows)
  | top (a : AV) (h : a.unown = .top) : AVle1 st a .top
def leL (st : St) : List AV → List AV → Prop
  | [], [] => True
  | a :: as, b :: bs => AVle1 st a b ∧ leL st as bs
  | _, _ => False
inductive AVle (st : St) : AV → AV → Prop where
  | one {a b : AV} (h : AVle1 st a b) : AVle st a b
  | agg {cs ds : List AV} (h : leL st cs ds) : AVle st (.agg cs) (.agg ds)
theorem AVle.refl {st : St} (a : AV) : AVle st a a := .one (.refl a)
theorem AVle.of_eq {st : St} {a b : AV} (h : a = b) : AVle st a b := h ▸ .refl a
theorem leL_refl {st : St} : ∀ cs : List AV, leL st cs cs
  | [] => trivial
  | a :: cs => ⟨.refl a, leL_refl cs⟩
theorem leL_of_eq {st : St} {cs ds : List AV} (h : cs = ds) : leL st cs ds := h ▸ leL_refl cs
theorem leL_at {st : St} : ∀ {cs ds : List AV}, leL st cs ds → cs.length = ds.length ∧ ∀ (j : Nat) b, ds[j]? = some b → ∃ a, cs[j]? = some a ∧ AVle1 st a b
  | [], [], _ => ⟨rfl, fun j b h => by simp at h⟩
  | a :: cs, b :: ds, h => by
    obtain ⟨h1, h2⟩ := leL_at h.2
    refine ⟨by simp [h1], fun j c hc => ?_⟩
    cases j with
    | zero => simp at hc; subst hc; exact ⟨a, rfl, h.1⟩
    | succ j => simpa using h2 j c (by simpa using hc)
  | [], _ :: _, h => h.elim
  | _ :: _, [], h => h.elim
section
variable {P : Program} {mu : List Nat} {E : Env} {G G' : Gho} {fr fr' : Fr} {st st' : St} {a : Act} {w : World}
/-- what is kept when rows that were made anew, and variables, are forgotten -/
structure Gho.less (G G' : Gho) : Prop where
  σ : G.σ = G'.σ
  ρ : G.ρ = G'.ρ
  B : ∀ id g, G'.B id = some g → G.B id = some g
def AV.noFrs : AV → Bool
  | .frs _ _ _ => false
  | _ => true
theorem TagOk.less (h : G.less G') {v : Value} {a : AV} (hn : a.noFrs = true) (ht : TagOk G v a) : TagOk G' v a := by
  unfold TagOk at ht ⊢
  split at ht
  · rw [← h.ρ]; exact ht
  · obtain ⟨h0, h00, g, h1, h2⟩ := ht
    exact ⟨h0, h00, g, h1, fun g' hg => h2 g' (h.B _ _ hg)⟩
  · cases hn
  · trivial
theorem cell_le (hC : Conc E G fr st a w) (hx : G.less G') {v : Value} {x y : AV} (h : Rel1 G.σ v x.unown ∧ TagOk G v x) (hn : y.noFrs = true) (hle : AVle1 st x y) : Rel1 G'.σ v y.unown ∧ TagOk G' v y := by
  rw [← hx.σ]
  cases hle with
  | refl => exact ⟨h.1, h.2.less hx hn⟩
  | any t esz l =>
    have := h.1.plain
    rw [plain_unown] at this
    exact ⟨this, trivial⟩
  | own s ver esz l =>
    have hs : RelS G v (.lst .nil esz l) := h
    obtain ⟨A, cap, b, o, f, q1, _, _, _, _, _, _, q8, _⟩ := lst_open hs
    have h8 := q8 rfl
    have := h.1.plain
    rw [plain_unown] at this
    exact ⟨this, .inl ⟨A, by rw [q1, h8.2.1, h8.2.2]⟩⟩
  | ownF s ver esz l =>
    have hs : RelS G v (.lst .full esz l) := h
    obtain ⟨A, cap, b, o, f, q1, _, _, _, _, _, _, _, q9⟩ := lst_open hs
    have := h.1.plain
    rw [plain_unown] at this
    exact ⟨this, .inl ⟨A, by rw [q1, q9 rfl]⟩⟩
  | top a ht => exact ⟨(show Rel1 G.σ v .top by have := h.1; rw [ht] at this; exact this), trivial⟩
  | frz id esz cap rows sp hb hro =>
    refine ⟨?_, trivial⟩
    obtain ⟨h0, hcap, g0, hv, hg0⟩ := h.2
    obtain ⟨g, hB, hge, ty, vs, hg, hr, _, hfz⟩ := hC.box id _ true hb
    rw [← hg0 g hB] at hv
    subst hv
    obtain ⟨hfl, hnt⟩ := hro.flat
    have hvl : vs.size = (rows.flatten ++ sp).length := by
      have h1 : vs.toList.length = ((rows.flatten ++ sp).map AV.unown).length := hr.1
      rw [List.length_map] at h1
      simpa using h1
    have hle : rows.length * esz ≤ vs.size := by rw [hvl, List.length_append, hfl]; omega
    refine .lst .any esz rows _ _ cap g 0 (fun i j => vs.getD (i * esz + j) undef) rfl hcap (fun _ => rfl) (fun i c hc => (hro.2 c (List.mem_of_getElem? hc)).1) (fun i j hi hj => ?_) (fun i j c x hc hx => ?_) trivial
    · have hlt : i * esz + j < vs.size := by
        have h1 : (i + 1) * esz ≤ rows.length * esz := Nat.mul_le_mul_right _ (by omega)
        rw [Nat.add_mul] at h1
        omega
      have h2 : vs[i * esz + j]? = some vs[i * esz + j] := Array.getElem?_eq_getElem hlt
      rw [Nat.zero_add, hfz _ _ h2, Array.getD, dif_pos hlt]
      rfl
    · have h1 := hro.at_ hc hx
      have h2 : ((rows.flatten ++ sp).map AV.unown)[i * esz + j]? = some x := by
        rw [List.map_append, hnt, List.getElem?_append_left (List.getElem?_eq_some_iff.1 h1).1]
        exact h1
      obtain ⟨v, hv1, hv2⟩ := hr.at_ h2
      have : vs[i * esz + j]? = some v := by simpa using hv1
      simp only [Array.getD_eq_getD_getElem?, this]
      exact hv2
theorem cells_le (hC : Conc E G fr st a w) (hx : G.less G') {vs : List Value} {cs ds : List AV} (h : RelL G.σ vs (cs.map AV.unown)) (ht : TagsOk G vs cs) (hn : ∀ d ∈ ds, d.noFrs = true) (hle : leL st cs ds) : RelL G'.σ vs (ds.map AV.unown) ∧ TagsOk G' vs ds := by
  obtain ⟨h1, h2⟩ := leL_at hle
  have key : ∀ (j : Nat) v b, vs[j]? = some v → ds[j]? = some b → Rel1 G'.σ v b.unown ∧ TagOk G' v b := by
    intro j v b hv hb
    obtain ⟨a, ha, hab⟩ := h2 j b hb
    exact cell_le hC hx ⟨h.2 j v _ hv (by rw [List.getElem?_map, ha]; rfl), ht j v a hv ha⟩ (hn b (List.mem_of_getElem? hb)) hab
  refine ⟨⟨by have := h.1; simp at this ⊢; omega, fun j v b hv hb => ?_⟩, fun j v b hv hb => (key j v b hv hb).2⟩
  rw [List.getElem?_map] at hb
  cases hd : ds[j]? with
  | none => rw [hd] at hb; cases hb
  | some d => rw [hd] at hb; cases hb; exact (key j v d hv hd).1
/-- a slot's value that may be kept: no rows made anew, no elements' addresses -/
def AV.keeps : AV → Bool
  | .agg cs => cs.all AV.noFrs
  | .frs _ _ _ => false
  | .pel _ _ _ _ _ => false
  | .when _ _ => false
  | _ => true
theorem RelS.le (hC : Conc E G fr st a w) (hx : G.less G') {v : Value} {x y : AV} (h : RelS G v x) (hk : y.keeps = true) (hB : ∀ id off g, y = .ptr id off → G.B id = some g → G'.B id = some g) (hle : AVle st x y) : RelS G' v y := by
  cases hle with
  | agg hl =>
    obtain ⟨vs, e, h1, h2⟩ := h
    obtain ⟨h3, h4⟩ := cells_le hC hx h1 h2 (fun d hd => List.all_eq_true.1 hk d hd) hl
    exact ⟨vs, e, h3, h4⟩
  | one h1 =>
    have one : ∀ y : AV, y.noFrs = true → AVle1 st x y → (Rel1 G.σ v x.unown ∧ TagOk G v x) → Rel1 G'.σ v y.unown ∧ TagOk G' v y := fun y hn h1 h => cell_le hC hx h hn h1
    cases h1 with
    | any t esz l => exact one _ rfl (.any t esz l) h
    | own s ver esz l => exact one _ rfl (.own s ver esz l) h
    | ownF s ver esz l => exact one _ rfl (.ownF s ver esz l) h
    | frz id esz cap rows sp hb hro => exact one _ rfl (.frz id esz cap rows sp hb hro) h
    | top _ ht => cases x <;> first | (cases ht; done) | exact one _ rfl (.top _ ht) h
    | refl =>
      cases x with
      | agg cs =>
        obtain ⟨vs, e, h1, h2⟩ := h
        obtain ⟨h3, h4⟩ := cells_le hC hx h1 h2 (fun d hd => List.all_eq_true.1 hk d hd) (leL_refl cs)
        exact ⟨vs, e, h3, h4⟩
      | tup l => exact (by rw [← hx.σ]; exact h : RelR G'.σ v (.tup l))
      | ptr id off =>
        obtain ⟨g, h1, h2⟩ := h
        exact ⟨g, hB id off g rfl h1, h2⟩
      | when c x => cases hk
      | frs k esz rows => cases hk
      | pel id esz i k c => cases hk
      | int k n => exact one _ rfl (.refl _) h
      | bool b => exact one _ rfl (.refl _) h
      | str b => exact one _ rfl (.refl _) h
      | lst t esz l => exact one _ rfl (.refl _) h
      | ro cs => exact one _ rfl (.refl _) h
      | fn f cap => exact one _ rfl (.refl _) h
      | raw v => exact one _ rfl (.refl _) h
      | top => exact one _ rfl (.refl _) h
      | sli id esz n cap => exact one _ rfl (.refl _) h
end

def frOf : List (Nat × AV) → Fr
  | [] => fun _ => none
  | (s, x) :: L => upd (frOf L) s (some x)
def boxOf : List (Nat × List AV × Bool) → Nat → Option (List AV × Bool)
  | [] => fun _ => none
  | (s, x) :: L => upd (boxOf L) s (some x)
theorem frOf_mem : ∀ {L : List (Nat × AV)} {s : Nat} {x : AV}, frOf L s = some x → (s, x) ∈ L
  | [], s, x, h => by cases h
  | (s', y) :: L, s, x, h => by
    simp only [frOf, upd_at] at h
    split at h
    · rename_i e; cases h; subst e; simp
    · exact List.mem_cons_of_mem _ (frOf_mem h)
theorem boxOf_mem : ∀ {L : List (Nat × List AV × Bool)} {s : Nat} {x : List AV × Bool}, boxOf L s = some x → (s, x) ∈ L
  | [], s, x, h => by cases h
  | (s', y) :: L, s, x, h => by
    simp only [boxOf, upd_at] at h
    split at h
    · rename_i e; cases h; subst e; simp
    · exact List.mem_cons_of_mem _ (boxOf_mem h)
def slotsLe (st : St) (fr : Fr) : List (Nat × AV) → Prop
  | [] => True
  | (s, x) :: L => (∃ v, fr s = some v ∧ AVle st v x) ∧ slotsLe st fr L
def boxesLe (st : St) : List (Nat × List AV × Bool) → Prop
  | [] => True
  | (s, cs, fz) :: L => (∃ ds, st.box s = some (ds, fz) ∧ leL st ds cs) ∧ boxesLe st L
def ptrOk (L : List (Nat × AV)) (BL : List (Nat × List AV × Bool)) : Bool := (L.all fun x => match x.2 with
  | .ptr id _ => BL.any fun y => Nat.beq y.1 id
  | a => a.keeps) && BL.all fun y => match Nat.ble 1000000 y.1 with
  | true => true
  | false => y.2.1.all AV.noFrs
/-- the cells of rows that may be written bear no tags -/
def privOk : List (Nat × List AV × Bool) → Prop
  | [] => True
  | (s, cs, _) :: L => match Nat.ble 1000000 s with
    | true => cs.map AV.unown = cs ∧ privOk L
    | false => privOk L
theorem slotsLe_mem {st : St} {fr : Fr} : ∀ {L : List (Nat × AV)}, slotsLe st fr L → ∀ x ∈ L, ∃ v, fr x.1 = some v ∧ AVle st v x.2
  | [], _, x, hx => by cases hx
  | y :: L, h, x, hx => by
    rcases List.mem_cons.1 hx with rfl | hx
    · exact h.1
    · exact slotsLe_mem h.2 x hx
theorem boxesLe_mem {st : St} : ∀ {L : List (Nat × List AV × Bool)}, boxesLe st L → ∀ x ∈ L, ∃ ds, st.box x.1 = some (ds, x.2.2) ∧ leL st ds x.2.1
  | [], _, x, hx => by cases hx
  | y :: L, h, x, hx => by
    rcases List.mem_cons.1 hx with rfl | hx
    · exact h.1
    · exact boxesLe_mem h.2 x hx
theorem noFrs_unown {cs : List AV} (h : cs.map AV.unown = cs) : ∀ d ∈ cs, d.noFrs = true := by
  intro d hd
  obtain ⟨j, hj⟩ := List.getElem?_of_mem hd
  have : (cs.map AV.unown)[j]? = some d := by rw [h]; exact hj
  rw [List.getElem?_map, hj] at this
  simp only [Option.map_some, Option.some.injEq] at this
  cases d <;> first | rfl | cases this
theorem box_noFrs {L : List (Nat × AV)} : ∀ {BL : List (Nat × List AV × Bool)}, ptrOk L BL = true → privOk BL → ∀ y ∈ BL, ∀ d ∈ y.2.1, d.noFrs = true := by
  intro BL hp hpr y hy
  have h1 : ∀ z ∈ BL, (match Nat.ble 1000000 z.1 with | true => true | false => z.2.1.all AV.noFrs) = true := by
    unfold ptrOk at hp
    rw [Bool.and_eq_true] at hp
    exact List.all_eq_true.1 hp.2
  have h2 := h1 y hy
  cases hb : Nat.ble 1000000 y.1 with
  | false => rw [hb] at h2; exact List.all_eq_true.1 h2
  | true =>
    have h3 : ∀ (BL : List (Nat × List AV × Bool)), privOk BL → ∀ y ∈ BL, Nat.ble 1000000 y.1 = true → y.2.1.map AV.unown = y.2.1 := by
      intro BL
      induction BL with
      | nil => intro _ y hy; cases hy
      | cons z L ih =>
        intro hz y hy hb
        obtain ⟨s, cs, fz⟩ := z
        unfold privOk at hz
        rcases List.mem_cons.1 hy with rfl | hy
        · simp only at hb
          rw [hb] at hz
          exact hz.1
        · split at hz
          · exact ih hz.2 y hy hb
          · exact ih hz y hy hb
    exact noFrs_unown (h3 BL hpr y hy hb)
theorem boxOf_none : ∀ {L : List (Nat × List AV × Bool)} {s : Nat}, (∀ x ∈ L, x.1 ≠ s) → boxOf L s = none
  | [], _, _ => rfl
  | y :: L, s, h => by
    simp only [boxOf, upd_at]
    rw [if_neg (fun e => h y (by simp) e.symm)]
    exact boxOf_none fun x hx => h x (by simp [hx])
theorem boxOf_some : ∀ {L : List (Nat × List AV × Bool)} {s : Nat} {x : Nat × List AV × Bool}, x ∈ L → x.1 = s → boxOf L s ≠ none
  | y :: L, s, x, h, e => by
    simp only [boxOf, upd_at]
    by_cases he : s = y.1
    · rw [if_pos he]; simp
    · rw [if_neg he]
      rcases List.mem_cons.1 h with rfl | h
      · exact absurd e.symm he
      · exact boxOf_some h e
theorem Weak.intro {fr : Fr} {st : St} {L : List (Nat × AV)} {BL : List (Nat × List AV × Bool)} {row : Nat → Nat} (h1 : slotsLe st fr L) (h2 : boxesLe st BL) (h3 : st.row = row) (h4 : ptrOk L BL = true) (h5 : privOk BL := by trivial) : Weak fr st (frOf L) ⟨boxOf BL, row⟩ := by
  intro E G a w h
  subst h3
  have hB' : ∀ id g, (if boxOf BL id = none then none else G.B id) = some g → G.B id = some g := fun id g hg => by
    split at hg
    · cases hg
    · exact hg
  have hx : G.less { G with B := fun id => if boxOf BL id = none then none else G.B id, φ := fun _ => none } := ⟨rfl, rfl, hB'⟩
  refine ⟨{ G with B := fun id => if boxOf BL id = none then none else G.B id, φ := fun _ => none },
    { defers := h.defers
      size := h.size
      slots := fun s x hs => ?_
      hold := h.hold
      ext := h.ext
      below := h.below
      box := fun id cs fz hs => ?_
      bnone := fun id hs => by simp only at hs ⊢; rw [if_pos hs]
      binj := fun id id' g h1 h2 => h.binj id id' g (hB' id g h1) (hB' id' g h2)
      row := fun s r hs => ⟨(h.row s r hs).1, fun id hid => (h.row s r hs).2 id (hB' id _ hid)⟩
      rinj := h.rinj
      rlt := h.rlt
      phi := fun k x hk => by cases hk
      phinj := fun k k' x x' hk => by cases hk
      pnone := fun _ _ => rfl
      small := h.small }⟩
  · have hm := frOf_mem hs
    obtain ⟨v0, hv0, hvle⟩ := slotsLe_mem h1 _ hm
    have hp0 := h4
    unfold ptrOk at hp0
    rw [Bool.and_eq_true] at hp0
    have hp := List.all_eq_true.1 hp0.1 _ hm
    simp only at hp hvle
    refine (h.slots s v0 hv0).le h hx ?_ (fun id off g e hg => ?_) hvle
    · cases x <;> first | rfl | exact hp
    · subst e
      simp only [List.any_eq_true] at hp
      obtain ⟨y, hy, hyb⟩ := hp
      simp only
      rw [if_neg (boxOf_some hy (Nat.eq_of_beq_eq_true hyb))]
      exact hg
  · have hm := boxOf_mem hs
    obtain ⟨ds, hds, hdle⟩ := boxesLe_mem h2 _ hm
    obtain ⟨g, k1, k2, t, vs, k3, k4, k5, k6⟩ := h.box id ds fz hds
    obtain ⟨q1, q2⟩ := cells_le h hx k4 k5 (box_noFrs h4 h5 _ hm) hdle
    refine ⟨g, ?_, k2, t, vs, k3, q1, q2, k6⟩
    simp only at hs ⊢
    rw [if_neg (by rw [hs]; simp)]
    exact k1
/-- a row that may be written stays as it is from now on -/
theorem Weak.fz {fr : Fr} {st : St} {id : Nat} {cs : List AV} (hb : st.box id = some (cs, false)) : Weak fr st fr { st with box := upd st.box id (some (cs, true)) } := by
  intro E G a w h
  obtain ⟨g, hB, _⟩ := h.box id cs false hb
  obtain ⟨σ', _, h2, _⟩ := h.freezeBox hb hB
  exact ⟨_, h2⟩
/-! a row that a call has made anew is taken as one that may be written -/
def opnC (d id cap : Nat) : AV → AV
  | .frs k esz rows => match Nat.beq k d with
    | true => .sli id esz rows.length cap
    | false => .frs k esz rows
  | .sli i esz n c => match Nat.beq i id with
    | true => .top
    | false => .sli i esz n c
  | a => a
def opnA (d id cap : Nat) : AV → AV
  | .agg cs => .agg (cs.map (opnC d id cap))
  | .pel i esz j k c => match Nat.beq i id with
    | true => .top
    | false => .pel i esz j k c
  | a => opnC d id cap a
def opnS (d id cap : Nat) : AV → AV
  | .when c a => .when c (opnA d id cap a)
  | a => opnA d id cap a
def opnF (d id cap : Nat) (fr : Fr) : Fr := fun s => match fr s with
  | some a => some (opnS d id cap a)
  | none => none
def opnB (d id cap : Nat) (cs : List AV) (st : St) : St := ⟨fun k => match Nat.beq k id with
  | true => some (cs, false)
  | false => match st.box k with
    | some (ds, fz) => some (ds.map (opnC d id cap), fz)
    | none => none, st.row⟩

theorem opnC_rel {G : Gho} {d id cap g esz : Nat} {rows : List (List AV)} (hid : 1000000 ≤ id) (hBn : ∀ j, G.B id ≠ some j) (hd : G.φ d = some ⟨g, cap, esz, rows⟩) (hle : rows.length ≤ cap) {v : Value} {x : AV} (h : Rel1 G.σ v x.unown ∧ TagOk G v x) :
    Rel1 G.σ v (opnC d id cap x).unown ∧ TagOk { G with B := upd G.B id (some g), φ := upd G.φ d none } v (opnC d id cap x) := by
  cases x with
  | frs k e r =>
    simp only [opnC]
    cases hk : Nat.beq k d with
    | true =>
      have := Nat.eq_of_beq_eq_true hk
      subst this
      obtain ⟨h1, g', cap', h2, h3⟩ := h
      rw [hd] at h2
      cases h2
      exact ⟨h1, hid, hle, g, h3, fun g' hg' => by simp only [upd_same] at hg'; cases hg'; rfl⟩
    | false =>
      obtain ⟨h1, g', cap', h2, h3⟩ := h
      refine ⟨h1, g', cap', ?_, h3⟩
      simp only
      rw [upd_ne _ _ (fun e => by rw [e, Nat.beq_refl] at hk; cases hk)]
      exact h2
  | sli i e n c =>
    simp only [opnC]
    cases hk : Nat.beq i id with
    | true => exact ⟨h.1, trivial⟩
    | false =>
      obtain ⟨h1, h2, h3, g', h4, h5⟩ := h
      refine ⟨h1, h2, h3, g', h4, fun g'' hg'' => h5 g'' ?_⟩
      simp only at hg''
      rw [upd_ne _ _ (fun e => by rw [e, Nat.beq_refl] at hk; cases hk)] at hg''
      exact hg''
  | lst t e l => cases t <;> exact h
  | _ => exact h
theorem opnCs_rel {G : Gho} {d id cap g esz : Nat} {rows : List (List AV)} (hid : 1000000 ≤ id) (hBn : ∀ j, G.B id ≠ some j) (hd : G.φ d = some ⟨g, cap, esz, rows⟩) (hle : rows.length ≤ cap) {vs : List Value} {cs : List AV} (h : RelL G.σ vs (cs.map AV.unown)) (ht : TagsOk G vs cs) :
    RelL G.σ vs ((cs.map (opnC d id cap)).map AV.unown) ∧ TagsOk { G with B := upd G.B id (some g), φ := upd G.φ d none } vs (cs.map (opnC d id cap)) := by
  have key : ∀ (j : Nat) v b, vs[j]? = some v → cs[j]? = some b → _ := fun j v b hv hb => opnC_rel (v := v) (x := b) hid hBn hd hle ⟨h.2 j v _ hv (by rw [List.getElem?_map, hb]; rfl), ht j v b hv hb⟩
  refine ⟨⟨by have := h.1; simpa using this, fun j v b hv hb => ?_⟩, fun j v b hv hb => ?_⟩
  · rw [List.map_map, List.getElem?_map] at hb
    cases hc : cs[j]? with
    | none => rw [hc] at hb; cases hb
    | some c => rw [hc] at hb; cases hb; exact (key j v c hv hc).1
  · rw [List.getElem?_map] at hb
    cases hc : cs[j]? with
    | none => rw [hc] at hb; cases hb
    | some c => rw [hc] at hb; cases hb; exact (key j v c hv hc).2
theorem opnA_rel {G : Gho} {d id cap g esz : Nat} {rows : List (List AV)} (hid : 1000000 ≤ id) (hBn : ∀ j, G.B id ≠ some j) (hd : G.φ d = some ⟨g, cap, esz, rows⟩) (hle : rows.length ≤ cap) {v : Value} {x : AV} (h : RelS0 G v x) :
    RelS0 { G with B := upd G.B id (some g), φ := upd G.φ d none } v (opnA d id cap x) := by
  have one : ∀ x : AV, (Rel1 G.σ v x.unown ∧ TagOk G v x) → _ := fun x hx => opnC_rel (v := v) (x := x) hid hBn hd hle hx
  cases x with
  | agg cs =>
    obtain ⟨vs, e, h1, h2⟩ := h
    obtain ⟨h3, h4⟩ := opnCs_rel hid hBn hd hle h1 h2
    exact ⟨vs, e, h3, h4⟩
  | pel i e j k c =>
    obtain ⟨h1, g', h2, h3⟩ := h
    simp only [opnA]
    cases hk : Nat.beq i id with
    | true => exact ⟨(by rw [h2]; exact .top _ rfl : Rel1 G.σ v .top), trivial⟩
    | false =>
      refine ⟨h1, g', h2, fun g'' hg'' => h3 g'' ?_⟩
      simp only at hg''
      rw [upd_ne _ _ (fun e => by rw [e, Nat.beq_refl] at hk; cases hk)] at hg''
      exact hg''
  | ptr i off =>
    obtain ⟨g', h1, h2, h3⟩ := h
    refine ⟨g', ?_, h2, h3⟩
    simp only
    rw [upd_ne _ _ (by omega)]
    exact h1
  | tup l => exact h
  | when c x => exact h.elim
  | frs k e r =>
    have := one _ h
    simp only [opnA, opnC] at this ⊢
    split <;> (rename_i hk; rw [hk] at this; exact this)
  | sli i e n c =>
    have := one _ h
    simp only [opnA, opnC] at this ⊢
    split <;> (rename_i hk; rw [hk] at this; exact this)
  | int k n => exact one _ h
  | bool b => exact one _ h
  | str b => exact one _ h
  | lst t e l => exact one _ h
  | ro cs => exact one _ h
  | fn f cap => exact one _ h
  | raw v => exact one _ h
  | top => exact one _ h
theorem noWhen {G : Gho} {v : Value} {x : AV} (h : RelS0 G v x) : RelS G v x := by
  cases x <;> first | exact h | exact h.elim
theorem opnS_rel {G : Gho} {d id cap g esz : Nat} {rows : List (List AV)} (hid : 1000000 ≤ id) (hBn : ∀ j, G.B id ≠ some j) (hd : G.φ d = some ⟨g, cap, esz, rows⟩) (hle : rows.length ≤ cap) {v : Value} {x : AV} (h : RelS G v x) :
    RelS { G with B := upd G.B id (some g), φ := upd G.φ d none } v (opnS d id cap x) := by
  cases x with
  | when c a => exact ⟨fun hc => opnA_rel hid hBn hd hle (h.1 hc), h.2⟩
  | _ => exact noWhen (opnA_rel hid hBn hd hle (by simp only [RelS] at h; exact h))
theorem AK.open {P : Program} {E : Env} {Q : Exit → Fr → St → Prop} {k : List AItem} {fr : Fr} {st : St} {a : ACode} (d id : Nat) {esz : Nat} {rows : List (List AV)} (hd : fr d = some (.frs d esz rows)) (hid : 1000000 ≤ id) (hfree : st.box id = none)
    (h : ∀ cap m, rows.length ≤ cap → (rows.flatten ++ List.replicate m AV.top).length = cap * esz → AK P E Q (.c a :: k) (opnF d id cap fr) (opnB d id cap (rows.flatten ++ List.replicate m AV.top) st)) : AK P E Q (.c a :: k) fr st := by
  intro hds mu c G ac w hc hd2 hC
  obtain ⟨_, g, cap, hφ, hv⟩ := hC.slots d _ hd
  obtain ⟨⟨hge, e, cur, hg, hsz, hcap, hlen, hr, hone, hfr⟩, hB, hρ⟩ := hC.phi d _ hφ
  simp only at hge hg hsz hcap hlen hr hfr hB hρ
  have hBn : ∀ j, G.B id ≠ some j := fun j hj => by rw [hC.bnone id hfree] at hj; cases hj
  have hfl : rows.flatten.length = rows.length * esz := by
    have : ∀ l : List (List AV), (∀ c ∈ l, c.length = esz) → l.flatten.length = l.length * esz := by
      intro l
      induction l with
      | nil => intro _; simp
      | cons x l ih => intro hx; rw [List.flatten_cons, List.length_append, List.length_cons, ih fun c hc => hx c (by simp [hc]), hx x (by simp), Nat.add_mul]; omega
    exact this rows hlen
  have hle : rows.length * esz ≤ cap * esz := Nat.mul_le_mul_right _ hcap
  have hm : (rows.flatten ++ List.replicate (cap * esz - rows.length * esz) AV.top).length = cap * esz := by rw [List.length_append, List.length_replicate, hfl]; omega
  refine h cap (cap * esz - rows.length * esz) hcap hm hds mu c { G with B := upd G.B id (some g), φ := upd G.φ d none } ac w hc hd2 ?_
  have hBup : ∀ id' g', upd G.B id (some g) id' = some g' → (id' = id ∧ g' = g) ∨ (id' ≠ id ∧ G.B id' = some g') := fun id' g' hg' => by
    rw [upd_at] at hg'
    split at hg'
    · rename_i e; cases hg'; exact .inl ⟨e, rfl⟩
    · rename_i e; exact .inr ⟨e, hg'⟩
  exact
  { defers := hC.defers
    size := hC.size
    slots := fun s x hs => by
      unfold opnF at hs
      split at hs
      · rename_i y hy
        cases hs
        exact opnS_rel hid hBn hφ hcap (hC.slots s y hy)
      · cases hs
    hold := hC.hold
    ext := hC.ext
    below := hC.below
    box := fun id' cs fz hs => by
      simp only [opnB] at hs
      split at hs
      · rename_i hb
        have := Nat.eq_of_beq_eq_true hb
        subst this
        cases hs
        refine ⟨g, upd_same _ _ _, hge, e, cur, hg, ?_, ?_, fun j => hfr j⟩
        · rw [List.map_append]
          have h1 : RelL G.σ (cur.toList.take (rows.length * esz) ++ cur.toList.drop (rows.length * esz)) (rows.flatten ++ List.replicate (cap * esz - rows.length * esz) AV.top) := by
            refine hr.append ⟨by rw [List.length_drop, List.length_replicate]; simp [hsz], fun j v x hv hx => ?_⟩
            have hx2 : x = .top := by rw [List.getElem?_replicate] at hx; split at hx <;> cases hx; rfl
            subst hx2
            exact .top v (hone v (List.mem_of_mem_drop (List.mem_of_getElem? hv)))
          rw [List.take_append_drop] at h1
          rw [← List.map_append, h1.map_unown]
          exact h1
        · intro j v x hv hx
          by_cases hj : j < rows.flatten.length
          · rw [List.getElem?_append_left hj] at hx
            have hvj : (cur.toList.take (rows.length * esz))[j]? = some v := by rw [List.getElem?_take, if_pos (by omega)]; exact hv
            exact (RelL.tags (G := { G with B := upd G.B id' (some g), φ := upd G.φ d none }) hr) j v x hvj hx
          · rw [List.getElem?_append_right (by omega), List.getElem?_replicate] at hx
            split at hx <;> cases hx
            trivial
      · rename_i hb
        have hne : id' ≠ id := fun e => by rw [e, Nat.beq_refl] at hb; cases hb
        split at hs
        · rename_i ds fz' hds'
          cases hs
          obtain ⟨g2, k1, k2, t2, vs2, k3, k4, k5, k6⟩ := hC.box id' ds fz hds'
          obtain ⟨q1, q2⟩ := opnCs_rel hid hBn hφ hcap k4 k5
          exact ⟨g2, by simp only; rw [upd_ne _ _ hne]; exact k1, k2, t2, vs2, k3, q1, q2, k6⟩
        · cases hs
    bnone := fun id' hs => by
      simp only [opnB] at hs ⊢
      split at hs
      · cases hs
      · rename_i hb
        have hne : id' ≠ id := fun e => by rw [e, Nat.beq_refl] at hb; cases hb
        rw [upd_ne _ _ hne]
        split at hs
        · cases hs
        · rename_i hn; exact hC.bnone id' hn
    binj := fun id1 id2 g' h1 h2 => by
      rcases hBup _ _ h1 with ⟨e1, e2⟩ | ⟨e1, e2⟩ <;> rcases hBup _ _ h2 with ⟨e3, e4⟩ | ⟨e3, e4⟩
      · rw [e1, e3]
      · subst e2; exact absurd e4 (hB id2)
      · subst e4; exact absurd e2 (hB id1)
      · exact hC.binj id1 id2 g' e2 e4
    row := fun s r hs => ⟨(hC.row s r hs).1, fun id' hid' => by
      rcases hBup _ _ hid' with ⟨_, e2⟩ | ⟨_, e2⟩
      · exact hρ s r hs e2
      · exact (hC.row s r hs).2 id' e2⟩
    rinj := hC.rinj
    rlt := hC.rlt
    phi := fun k' x hk => by
      simp only at hk
      rw [upd_at] at hk
      split at hk
      · cases hk
      · rename_i hne
        obtain ⟨h1, h2, h3⟩ := hC.phi k' x hk
        refine ⟨h1, fun id' hid' => ?_, h3⟩
        rcases hBup _ _ hid' with ⟨_, e2⟩ | ⟨_, e2⟩
        · exact hne (hC.phinj k' d x _ hk hφ e2)
        · exact h2 id' e2
    phinj := fun k1 k2 x x' h1 h2 => by
      simp only at h1 h2
      rw [upd_at] at h1 h2
      split at h1
      · cases h1
      · split at h2
        · cases h2
        · exact hC.phinj k1 k2 x x' h1 h2
    pnone := fun k' hk => by
      simp only
      rw [upd_at]
      split
      · rfl
      · refine hC.pnone k' ?_
        unfold opnF at hk
        split at hk
        · cases hk
        · assumption
    small := hC.small }
theorem AK.fz {P : Program} {E : Env} {Q : Exit → Fr → St → Prop} {k : List AItem} {fr : Fr} {st : St} {a : ACode} (id : Nat) {cs : List AV} (hb : st.box id = some (cs, false)) (h : AK P E Q (.c a :: k) fr { st with box := upd st.box id (some (cs, true)) }) : AK P E Q (.c a :: k) fr st := AK.weak (Weak.fz hb) h
/-! ### a call -/
def ldAV (cs : List AV) (n : Nat) (agg : Bool) : Option AV := match agg with
  | true => match takeN n cs with
    | some cs => some (.agg cs)
    | none => none
  | false => getN 0 cs
def resVal (fr : Fr) (st : St) : ARes → Option AV
  | .tmp t => fr t
  | .cell t n agg => match fr t with
    | some (.ptr id off) => match st.box id with
      | some (cs, _) => match dropN off cs with
        | some cs => ldAV cs n agg
        | none => none
      | none => none
    | _ => none
def resVals (fr : Fr) (st : St) : List ARes → Option (List AV)
  | [] => some []
  | r :: l => match resVal fr st r, resVals fr st l with
    | some a, some as => match a.arg with
      | some x => some (x :: as)
      | none => none
    | _, _ => none
def resOne : List AV → AV
  | [a] => a
  | l => .tup l
/-- the end of a function's walk -/
def RQ (res : List ARes) (r : AV) : Exit → Fr → St → Prop
  | .normal, fr, st | .ret, fr, st => ∃ l, resVals fr st res = some l ∧ resOne l = r
  | _, _, _ => False
section
variable {P : Program} {mu : List Nat} {E : Env} {G : Gho} {fr fr' : Fr} {st st' : St} {a : Act} {w : World}
def resSem (tmps : Array Value) (r : ResultVar) : Sem Value :=
  match r with
  | .tmp t => pure (tmps.getD t undef)
  | .cell a t => do loadVar t (← asAddr (tmps.getD a undef))
theorem res_run (h : Conc E G fr st a w) : ∀ {rs : List ResultVar} {ars : List ARes} {l : List AV}, resOf P rs = some ars → resVals fr st ars = some l →
    ∃ vs : List Value, (rs.mapM (resSem a.tmps)).run P w = .ok vs w ∧ vs.length = l.length ∧ ∀ (j : Nat) v x, vs[j]? = some v → l[j]? = some x → RelP G.σ v x
  | [], ars, l, h1, h2 => by
    cases h1
    cases h2
    exact ⟨[], by simp, rfl, fun j v x hv => by simp at hv⟩
  | .tmp t :: rs, ars, l, h1, h2 => by
    unfold resOf at h1
    split at h1
    · rename_i r hr
      cases h1
      unfold resVals at h2
      split at h2
      · rename_i c as hc has
        split at h2
        · rename_i x hx
          cases h2
          obtain ⟨vs, k1, k2, k3⟩ := res_run h hr has
          refine ⟨a.tmps.getD t undef :: vs, by simp only [List.mapM_cons, resSem, Sem.run_bind, Sem.run_pure, Result.andThen_ok, k1], by simp [k2], fun j v y hv hy => ?_⟩
          cases j with
          | zero => cases hv; cases hy; exact (h.slots t c hc).arg hx
          | succ j => exact k3 j v y (by simpa using hv) (by simpa using hy)
        · cases h2
      · cases h2
    · cases h1
  | .cell c t :: rs, ars, l, h1, h2 => by
    unfold resOf at h1
    split at h1
    · rename_i inf r hinf hr
      split at h1
      · rename_i hu
        cases h1
        unfold resVals at h2
        split at h2
        · rename_i av as hc has
          split at h2
          · rename_i x hx
            cases h2
            obtain ⟨vs, k1, k2, k3⟩ := res_run h hr has
            simp only [resVal] at hc
            split at hc
            · rename_i id off hp
              obtain ⟨g, hB, hpv, _⟩ := h.slots c _ hp
              split at hc
              · rename_i cs fz hb
                obtain ⟨g', hB', q1, ty, us, hg, hrl, htg, hfz⟩ := h.box id cs fz hb
                rw [hB] at hB'
                cases hB'
                split at hc
                · rename_i cs' hdr
                  obtain ⟨hd1, hd2⟩ := dropN_spec hdr
                  have hL := load_rel (P := P) (G := G) hu hinf (box_cells hg off) (cs := cs') (by rw [hd1, List.map_drop]; exact hrl.drop off) (fun j u c hu' hc' => by rw [hd1] at hc'; exact htg (off + j) u c (by simpa using hu') (by simpa using hc'))
                  have key : ∃ v, (loadVar t ⟨g, off, none⟩).run P w = .ok v w ∧ RelS G v av := by
                    unfold ldAV at hc
                    split at hc
                    · rename_i ha
                      split at hc
                      · rename_i cs2 htk; cases hc; exact hL.1 _ ha htk
                      · cases hc
                    · rename_i ha; exact hL.2 _ ha hc
                  obtain ⟨v, hrun, hrel⟩ := key
                  refine ⟨v :: vs, ?_, by simp [k2], fun j u y hv hy => ?_⟩
                  · simp only [List.mapM_cons, resSem, Sem.run_bind, hpv, asAddr, Sem.run_pure, Result.andThen_ok, hrun, k1]
                  · cases j with
                    | zero => simp at hv hy; subst hv hy; exact hrel.arg hx
                    | succ j => exact k3 j u y (by simpa using hv) (by simpa using hy)
                · cases hc
              · cases hc
            · cases hc
          · cases h2
        · cases h2
      · cases h1
    · cases h1
def argFr : Nat → List AV → Fr
  | _, [] => fun _ => none
  | k, a :: l => upd (argFr (k + 1) l) k (some a)
theorem argFr_at : ∀ {l : List AV} {k s : Nat} {x : AV}, argFr k l s = some x → k ≤ s ∧ l[s - k]? = some x
  | [], k, s, x, h => by cases h
  | a :: l, k, s, x, h => by
    simp only [argFr, upd_at] at h
    split at h
    · rename_i e; cases h; subst e; simp
    · obtain ⟨h1, h2⟩ := argFr_at h
      refine ⟨by omega, ?_⟩
      rw [show s - k = (s - (k + 1)) + 1 by omega]
      simpa using h2
theorem RelS.ofP {v : Value} {r : AV} (h : RelP G.σ v r) : RelS G v r := by
  cases r <;> first
    | exact RelS.of1 h
    | (obtain ⟨us, he, h4⟩ := h; exact ⟨us, he, by rw [h4.map_unown]; exact h4, h4.tags⟩)
theorem arg_notup {ars : List ARes} {x : AV} (h : resVals fr st ars = some [x]) : x.isTup = false := by
  cases ars with
  | nil => cases h
  | cons r l =>
    unfold resVals at h
    split at h
    · rename_i a as ha has
      split at h
      · rename_i y hy
        cases h
        cases a <;> cases hy <;> rfl
      · cases h
    · cases h
theorem RelR.ofP {σ : Sg} {v : Value} {x : AV} (h : RelP σ v x) (hx : x.isTup = false) : RelR σ v x := by cases x <;> first | exact h | cases hx
/-- A CONTRACT OUT OF A WALK. -/
theorem AC.enter {f : FuncId} {fn : Func} {af : AFn} {args : List AV} {r : AV} (hf : P.funcs[f]? = some fn) (haf : fnAF P mu fn = some af) (hcb : callable P f = true) (hlen : Nat.ble args.length af.n = true)
    (hbody : ∀ E : Env, E.n = af.n → AK P E (RQ af.res r) [.c af.body] (argFr 0 args) ⟨fun _ => none, fun _ => 0⟩) : AC P f args r := by
  refine ⟨hcb, fun σ w vs hh hr hg => ?_⟩
  unfold fnAF at haf
  split at haf
  · rename_i c hbc
    split at haf
    · rename_i b rr hcode hres
      split at haf
      · rename_i hok
        cases haf
        simp only [Bool.and_eq_true] at hok
        refine calls_of_wp hf hbc ?_
        have hle : args.length ≤ fn.ntmps := Nat.le_of_ble_eq_true hlen
        have hvl : vs.length = args.length := hr.1
        have hC : Conc ⟨w, fn.ntmps, σ, hg⟩ ⟨σ, fun _ => none, fun _ _ => none, fun _ => none⟩ (argFr 0 args) ⟨fun _ => none, fun _ => 0⟩ { tmps := vs.toArray ++ Array.replicate (fn.ntmps - vs.toArray.size) undef, defers := [] } w :=
          { defers := rfl
            size := by simp; omega
            slots := fun s x hs => by
              obtain ⟨_, h2⟩ := argFr_at hs
              rw [Nat.sub_zero] at h2
              have hsl : s < vs.length := by rw [hvl]; exact (List.getElem?_eq_some_iff.1 h2).1
              have hv : vs[s]? = some vs[s] := List.getElem?_eq_getElem hsl
              have e : (vs.toArray ++ Array.replicate (fn.ntmps - vs.toArray.size) undef).getD s undef = vs[s] := by
                rw [Array.getD_eq_getD_getElem?, Array.getElem?_append_left (by simpa using hsl)]
                simp [hv]
              simp only [e]
              exact RelS.ofP (hr.2 s _ x hv h2)
            hold := hh
            ext := Ext.refl _ _
            below := Below.refl _ _
            box := fun id cs fz hs => by cases hs
            bnone := fun _ _ => rfl
            binj := fun id id' g h1 => by cases h1
            row := fun s r h1 => by cases h1
            rinj := fun s s' r r' h1 => by cases h1
            rlt := fun s v x h1 => by cases h1
            phi := fun k x h1 => by cases h1
            phinj := fun k k' x x' h1 => by cases h1
            pnone := fun _ _ => rfl
            small := Nat.le_of_ble_eq_true hok.2 }
        refine wp_mono (hbody ⟨w, fn.ntmps, σ, hg⟩ rfl hok.1.1 mu c _ _ w hcode hok.1.1 hC) fun e a' w' ⟨G', f', s', hC', hQ⟩ => ?_
        have fin : (∃ l, resVals f' s' rr = some l ∧ resOne l = r) → a'.defers = [] ∧ ∃ v, (results fn a'.tmps).run P w' = .ok v w' ∧ ∃ σ' v_1, Ending.returned v = Ending.returned v_1 ∧ Ext σ σ' w.heap.size ∧ Holds σ' w' ∧ Below w.heap.size w w' ∧ RelR σ' v_1 r := by
          rintro ⟨l, hl, hr1⟩
          refine ⟨hC'.defers, ?_⟩
          obtain ⟨us, k1, k2, k3⟩ := res_run hC' hres hl
          have hm : (fn.results.mapM (resSem a'.tmps)).run P w' = .ok us.toArray w' := by
            rw [Array.mapM_eq_mapM_toList, Sem.run_map, k1]
            rfl
          have hres2 : (results fn a'.tmps).run P w' = .ok (if h : us.toArray.size = 1 then us.toArray[0] else .tuple us.toArray) w' := by
            have e : results fn a'.tmps = (do let vs ← fn.results.mapM (resSem a'.tmps); pure (if h : vs.size = 1 then vs[0] else .tuple vs)) := rfl
            rw [e, Sem.run_bind, hm]
            rfl
          refine ⟨_, hres2, G'.σ, _, rfl, hC'.ext, hC'.hold, hC'.below, ?_⟩
          subst hr1
          by_cases h1 : us.length = 1
          · rw [dif_pos (show us.toArray.size = 1 by simpa using h1)]
            obtain ⟨u, rfl⟩ := List.length_eq_one_iff.1 h1
            obtain ⟨x, rfl⟩ := List.length_eq_one_iff.1 (k2.symm.trans h1)
            exact RelR.ofP (k3 0 u x rfl rfl) (arg_notup hl)
          · rw [dif_neg (show ¬ us.toArray.size = 1 by simpa using h1)]
            have : resOne l = .tup l := by
              cases l with
              | nil => rfl
              | cons x l => cases l with
                | nil => exact absurd k2 (by simpa using h1)
                | cons y l => rfl
            rw [this]
            exact ⟨us, rfl, k2, k3⟩
        cases e with
        | normal => exact fin hQ
        | ret => exact fin hQ
        | exit id => exact hQ.elim
        | goto l => exact hQ.elim
        | panic ch => exact hQ.elim
        | outgrown => exact hQ.elim
      · cases haf
    · cases haf
  · cases haf
end
end Go.Proofs.YtpcddcfpbohogaaDoor
