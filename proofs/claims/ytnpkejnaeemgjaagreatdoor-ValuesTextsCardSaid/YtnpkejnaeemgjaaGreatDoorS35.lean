/-
  The texts that the claim wants, one behind the other: part 35.
-/
import Derived.Test.YtnpkejnaeemgjaaGreatDoorS34
import Derived.Test.YtnpkejnaeemgjaaGreatDoorChecked
import Derived.KernelRfl
set_option linter.unusedSimpArgs false
set_option linter.unusedVariables false
namespace Go.Proofs.YtnpkejnaeemgjaaGreatDoor
open Go.RowKit
theorem BareAt.word {s a w z : Bs} {m i : Nat} (hd : s.drop i = a ++ (w ++ z)) (ha : ∀ c ∈ a, okB c = true) (hw : WordOk w) (hp : a = [] ∧ i = 0 ∨ a.getLast? = some 32) (hz : BareAt s m (i + a.length + w.length)) : BareAt s m i := by
 have hlen := congrArg List.length hd
 rw [List.length_drop, List.length_append, List.length_append] at hlen
 have hwl : 0 < w.length := List.length_pos_iff.2 hw.ne
 refine BareAt.run hd ha (hw.bare s m (i + a.length) z ?_ ?_ (by omega) hz)
 ·rw [← List.drop_drop, hd, List.drop_left' rfl]
 ·rcases hp with ⟨rfl, rfl⟩ | hp
  ·rfl
  ·obtain ⟨b, rfl⟩ := List.getLast?_eq_some_iff.1 hp
   have h1 : s[i + b.length]? = some 32 := by
    have : (s.drop i)[b.length]? = some 32 := by rw [hd]; simp
    rwa [List.getElem?_drop] at this
   unfold prevL
   have h2 : i + (b ++ [32]).length - 1 = i + b.length := by rw [List.length_append, List.length_singleton]; omega
   have h3 : ¬ i + (b ++ [32]).length = 0 := by rw [List.length_append, List.length_singleton]; omega
   rw [if_neg h3, h2, h1]
   rfl
structure TailOk (e : Bs) (j : Nat) : Prop where
 len : j ≤ e.length
 pad : e.take j = List.replicate j 32
 bare : ∀ s i, s.drop i = e → i ≤ s.length → BareAt s (i + j) i
theorem TailOk.nil : TailOk [] 0 := ⟨Nat.le_refl _, rfl, fun s i h hi => by
 have := congrArg List.length h
 rw [List.length_drop] at this
 simp only [List.length_nil] at this
 have e : i + 0 = s.length := by omega
 rw [e]
 exact BareOk.nil h⟩
theorem oneLine_e {x e : Bs} {k j : Nat} {c d : UInt8} {t : Bs} (he : TailOk e j) (hx : x = List.replicate k 32 ++ c :: t) (hb : BareAt (x ++ e) (x.length + j) 0) (hc : c ≠ 32) (hc9 : c ≠ 9) (hl : (c :: t).getLast? = some d) (hd : d ≠ 32) : oneLine (x ++ e) = some (some (k, c :: t)) := by
 have hbl : bareL (x ++ e) = x ++ List.replicate j 32 := by
  rw [bareL_of hb, List.take_append, List.take_of_length_le (by omega), show x.length + j - x.length = j by omega, he.pad]
 have htr : tr (x ++ List.replicate j 32) = x := by
  obtain ⟨u, hu⟩ : ∃ u, c :: t = u ++ [d] := List.getLast?_eq_some_iff.1 hl
  have h0 : ∀ j, Lib.trimRightB (List.replicate k 32 ++ u ++ [d] ++ List.replicate j 32) 32 = List.replicate k 32 ++ u ++ [d] := fun j => by
   induction j with
   | zero => rw [List.replicate_zero, List.append_nil]; exact tr_of hd
   | succ j ih =>
    rw [List.replicate_succ', ← List.append_assoc]
    unfold Lib.trimRightB at ih ⊢
    rw [List.reverse_append, List.reverse_singleton, List.singleton_append, List.dropWhile_cons, if_pos (by decide)]
    exact ih
  rw [hx, hu, ← List.append_assoc]
  exact h0 j
 unfold oneLine
 rw [hbl, htr, hx, tl_pad k hc]
 show (if c = 9 then none else _) = _
 rw [if_neg hc9]
 simp
structure LnOk (x : Nat × Bs) : Prop where
 one : ∀ e j, TailOk e j → oneLine (List.replicate x.1 32 ++ x.2 ++ e) = some (some x)
 nl : 10 ∉ x.2
 dash : ∀ t, x.2 ≠ 45 :: 45 :: t
theorem rep_ok (k : Nat) : ∀ c ∈ List.replicate k (32 : UInt8), okB c = true := fun c hc => by rw [List.eq_of_mem_replicate hc]; rfl
theorem rep_last (k : Nat) : List.replicate k (32 : UInt8) = [] ∧ 0 = 0 ∨ (List.replicate k (32 : UInt8)).getLast? = some 32 := by
 cases k with
 | zero => exact .inl ⟨rfl, rfl⟩
 | succ k => refine .inr (List.getLast?_eq_some_iff.2 ⟨List.replicate k 32, ?_⟩); rw [List.replicate_succ']
theorem last_of {w : Bs} (hw : WordOk w) (a : Bs) : ∃ d, (a ++ w).getLast? = some d ∧ d ≠ 32 := by
 obtain ⟨d, hd⟩ : ∃ d, w.getLast? = some d := by
  cases h : w.getLast? with
  | none => exact absurd (List.getLast?_eq_none_iff.1 h) hw.ne
  | some d => exact ⟨d, rfl⟩
 refine ⟨d, ?_, hw.last d hd⟩
 rw [List.getLast?_append, hd]
 rfl
theorem head_of {w : Bs} (hw : WordOk w) : ∃ c t, w = c :: t ∧ c ≠ 32 ∧ c ≠ 9 := by
 cases h : w with
 | nil => exact absurd h hw.ne
 | cons c t => exact ⟨c, t, rfl, hw.head c (by rw [h]; rfl)⟩
theorem tail_at {e : Bs} {j : Nat} (he : TailOk e j) (x : Bs) (k : Nat) (hk : k = x.length) : BareAt (x ++ e) (x.length + j) k := by
 subst hk
 exact he.bare _ _ (List.drop_left' rfl) (by rw [List.length_append]; omega)
theorem ln_leaf {w : Bs} (hw : WordOk w) (hd : ∀ t, w ≠ 45 :: 45 :: t) : LnOk (0, w) := by
 refine ⟨fun e j he => ?_, hw.nl, hd⟩
 obtain ⟨c, t, e1, h1, h2⟩ := head_of hw
 obtain ⟨d, hd, h3⟩ := last_of hw []
 have hb : BareAt (w ++ e) (w.length + j) 0 := BareAt.word (a := []) (w := w) (z := e) (by simp) (by simp) hw (.inl ⟨rfl, rfl⟩) (tail_at he w _ (by simp))
 subst e1
 exact oneLine_e (k := 0) he rfl hb h1 h2 (by simpa using hd) h3
theorem ln_item {w : Bs} (hw : WordOk w) (k : Nat) : LnOk (k, 45 :: 32 :: w) := by
 refine ⟨fun e j he => ?_, (fun hm => by
  rcases List.mem_cons.1 hm with h | hm
  ·cases h
  ·rcases List.mem_cons.1 hm with h | hm
   ·cases h
   ·exact hw.nl hm), fun t h => by injection h with _ h; injection h with h; cases h⟩
 obtain ⟨d, hd, h3⟩ := last_of hw [45, 32]
 refine oneLine_e he rfl (BareAt.word (a := List.replicate k 32 ++ [45, 32]) (w := w) (z := e) (by rw [List.drop_zero]; simp) (fun c hc => ?_) hw (.inr (List.getLast?_eq_some_iff.2 ⟨List.replicate k 32 ++ [45], by simp⟩)) (tail_at he _ _ (by simp; omega))) (by decide) (by decide) hd h3
 rcases List.mem_append.1 hc with hc | hc
 ·exact rep_ok k c hc
 ·rcases List.mem_cons.1 hc with rfl | hc
  ·rfl
  ·rw [List.mem_singleton.1 hc]; rfl
theorem ln_dash (k : Nat) : LnOk (k, [45]) := by
 refine ⟨fun e j he => ?_, (fun hm => by cases List.mem_singleton.1 hm), fun t h => by cases h⟩
 refine oneLine_e (t := []) he rfl (BareAt.run (a := List.replicate k 32 ++ [45]) (r := e) (by rw [List.drop_zero]) (fun c hc => ?_) (tail_at he _ _ (by simp))) (by decide) (by decide) rfl (by decide)
 rcases List.mem_append.1 hc with hc | hc
 ·exact rep_ok k c hc
 ·rw [List.mem_singleton.1 hc]; rfl
theorem key_dash (y : ByteArray) (r t : Bs) : wdL y ++ r ≠ 45 :: 45 :: t := fun h => by
 obtain ⟨c, u, e, _, _⟩ := head_of (key_ok y).w
 rw [e] at h
 injection h with h _
 exact (key_ok y).head c (by rw [e]; rfl) h
theorem ln_key {w : Bs} (hw : WordOk w) (y : ByteArray) (k : Nat) : LnOk (k, wdL y ++ 58 :: 32 :: w) := by
 have hy := (key_ok y).w
 refine ⟨fun e j he => ?_, (fun hm => by
  rcases List.mem_append.1 hm with hm | hm
  ·exact hy.nl hm
  ·rcases List.mem_cons.1 hm with h | hm
   ·cases h
   ·rcases List.mem_cons.1 hm with h | hm
    ·cases h
    ·exact hw.nl hm), key_dash y _⟩
 obtain ⟨d, hd, h3⟩ := last_of hw (wdL y ++ [58, 32])
 obtain ⟨c, t, e2, h1, h2⟩ := head_of hy
 have hb : BareAt ((List.replicate k 32 ++ (wdL y ++ 58 :: 32 :: w)) ++ e) ((List.replicate k 32 ++ (wdL y ++ 58 :: 32 :: w)).length + j) 0 := by
  refine BareAt.word (a := List.replicate k 32) (w := wdL y) (z := [58, 32] ++ (w ++ e)) (by rw [List.drop_zero]; simp) (rep_ok k) hy ?_ ?_
  ·rcases rep_last k with h | h
   ·exact .inl h
   ·exact .inr h
  ·refine BareAt.word (a := [58, 32]) (w := w) (z := e) ?_ (by decide) hw (.inr rfl) (tail_at he _ _ (by simp; omega))
   rw [show 0 + (List.replicate k (32 : UInt8)).length + (wdL y).length = (List.replicate k (32 : UInt8) ++ wdL y).length by simp]
   rw [show (List.replicate k 32 ++ (wdL y ++ 58 :: 32 :: w)) ++ e = (List.replicate k 32 ++ wdL y) ++ ([58, 32] ++ (w ++ e)) by simp, List.drop_left' rfl]
 have e3 : wdL y ++ 58 :: 32 :: w = c :: (t ++ 58 :: 32 :: w) := by rw [e2]; rfl
 have hd2 : (wdL y ++ 58 :: 32 :: w).getLast? = some d := by rw [show wdL y ++ 58 :: 32 :: w = wdL y ++ [58, 32] ++ w by simp]; exact hd
 show oneLine ((List.replicate k 32 ++ (wdL y ++ 58 :: 32 :: w)) ++ e) = _
 rw [e3] at hb hd2 ⊢
 exact oneLine_e he rfl hb h1 h2 hd2 h3
theorem ln_key0 (y : ByteArray) (k : Nat) : LnOk (k, wdL y ++ [58]) := by
 have hy := (key_ok y).w
 refine ⟨fun e j he => ?_, (fun hm => by
  rcases List.mem_append.1 hm with hm | hm
  ·exact hy.nl hm
  ·cases List.mem_singleton.1 hm), key_dash y _⟩
 obtain ⟨c, t, e2, h1, h2⟩ := head_of hy
 have hb : BareAt ((List.replicate k 32 ++ (wdL y ++ [58])) ++ e) ((List.replicate k 32 ++ (wdL y ++ [58])).length + j) 0 := by
  refine BareAt.word (a := List.replicate k 32) (w := wdL y) (z := [58] ++ e) (by rw [List.drop_zero]; simp) (rep_ok k) hy ?_ ?_
  ·rcases rep_last k with h | h
   ·exact .inl h
   ·exact .inr h
  ·refine BareAt.run (a := [58]) (r := e) ?_ (by decide) (tail_at he _ _ (by simp; omega))
   rw [show 0 + (List.replicate k (32 : UInt8)).length + (wdL y).length = (List.replicate k (32 : UInt8) ++ wdL y).length by simp]
   rw [show (List.replicate k 32 ++ (wdL y ++ [58])) ++ e = (List.replicate k 32 ++ wdL y) ++ ([58] ++ e) by simp, List.drop_left' rfl]
 have e3 : wdL y ++ [58] = c :: (t ++ [58]) := by rw [e2]; rfl
 have hd2 : (wdL y ++ [58]).getLast? = some 58 := List.getLast?_eq_some_iff.2 ⟨_, rfl⟩
 show oneLine ((List.replicate k 32 ++ (wdL y ++ [58])) ++ e) = _
 rw [e3] at hb hd2 ⊢
 exact oneLine_e he rfl hb h1 h2 hd2 (by decide)
theorem lin_ok : ∀ {v : V}, Fit v → v.leaf = false → ∀ k, ∀ x ∈ linV v k, LnOk x := by
 intro v hf
 induction hf with
 | leaf hl _ => intro h; rw [hl] at h; cases h
 | @list l hne hall ih =>
  intro _ k x hx
  rw [linV_eq] at hx
  have hx : x ∈ linL l k := by simpa [vList, V.l, V.m, linM] using hx
  have key : ∀ (l : List V), (∀ y ∈ l, Fit y ∧ (y.leaf = false → ∀ k, ∀ x ∈ linV y k, LnOk x)) → ∀ x ∈ linL l k, LnOk x := by
   intro l
   induction l with
   | nil => intro _ x hx; rw [linL] at hx; cases hx
   | cons y l ih2 =>
    intro h x hx
    rw [linL_cons] at hx
    rcases List.mem_append.1 hx with hx | hx
    ·cases hy : y.leaf with
     | true =>
      rw [hy, if_pos rfl] at hx
      rw [List.mem_singleton.1 hx]
      exact ln_item ((h y (by simp)).1.leafOk hy).w k
     | false =>
      rw [hy, if_neg (by simp)] at hx
      rcases List.mem_cons.1 hx with rfl | hx
      ·exact ln_dash k
      ·exact (h y (by simp)).2 hy _ x hx
    ·exact ih2 (fun z hz => h z (by simp [hz])) x hx
  exact key l (fun y hy => ⟨hall y hy, ih y hy⟩) x hx
 | @map m hne hri hall ih =>
  intro _ k x hx
  rw [linV_eq] at hx
  have hx : x ∈ linM m k := by simpa [vMap, V.l, V.m, linL] using hx
  have key : ∀ (m : List (ByteArray × V)), (∀ p ∈ m, Fit p.2 ∧ (p.2.leaf = false → ∀ k, ∀ x ∈ linV p.2 k, LnOk x)) → ∀ x ∈ linM m k, LnOk x := by
   intro m
   induction m with
   | nil => intro _ x hx; rw [linM] at hx; cases hx
   | cons p m ih2 =>
    intro h x hx
    obtain ⟨y, z⟩ := p
    rw [linM_cons] at hx
    rcases List.mem_append.1 hx with hx | hx
    ·cases hy : z.leaf with
     | true =>
      rw [hy, if_pos rfl] at hx
      rw [List.mem_singleton.1 hx]
      exact ln_key ((h (y, z) (by simp)).1.leafOk hy).w y k
     | false =>
      rw [hy, if_neg (by simp)] at hx
      rcases List.mem_cons.1 hx with rfl | hx
      ·exact ln_key0 y k
      ·exact (h (y, z) (by simp)).2 hy _ x hx
    ·exact ih2 (fun q hq => h q (by simp [hq])) x hx
  exact key m (fun p hp => ⟨hall p hp, ih p hp⟩) x hx
def padL (x : Nat × Bs) : Bs := List.replicate x.1 32 ++ x.2
def txt (ls : List (Nat × Bs)) : Bs := ls.flatMap fun x => padL x ++ [10]
theorem txt_app (a b : List (Nat × Bs)) : txt (a ++ b) = txt a ++ txt b := List.flatMap_append
theorem txt_cons (x : Nat × Bs) (l : List (Nat × Bs)) : txt (x :: l) = padL x ++ [10] ++ txt l := by simp [txt]
theorem lay_txt : ∀ (N : Nat), (∀ v : V, v.size ≤ N → ∀ k, (v.lay wordB prB k).data.toList = txt (linV v k))
 | 0 => fun v h => by have := v.size_pos; omega
 | N + 1 => fun v h k => by
  have ih := lay_txt N
  have hsz := v.size_eq
  have key1 : ∀ (l : List V), (∀ x ∈ l, x.size ≤ N) → (layL wordB prB l k).data.toList = txt (linL l k) := by
   intro l
   induction l with
   | nil => intro _; rw [layL, linL]; rfl
   | cons x l ih2 =>
    intro hl
    rw [layL_cons, linL_cons, txt_app, ba_app_list, ba_app_list, ba_app_list, ih2 fun y hy => hl y (by simp [hy])]
    congr 1
    rw [V.tail]
    cases hx : x.leaf with
    | true =>
     rw [if_pos rfl, if_pos rfl, ba_app_list, ba_app_list, txt_cons]
     simp [padL, padB, prL, txt]
    | false =>
     rw [if_neg (by simp), if_neg (by simp), ba_app_list, ih x (hl x (by simp)), txt_cons]
     simp [padL, padB]
  have key2 : ∀ (m : List (ByteArray × V)), (∀ p ∈ m, p.2.size ≤ N) → (layM wordB prB m k).data.toList = txt (linM m k) := by
   intro m
   induction m with
   | nil => intro _; rw [layM, linM]; rfl
   | cons p m ih2 =>
    intro hm
    obtain ⟨y, x⟩ := p
    rw [layM_cons, linM_cons, txt_app, ba_app_list, ba_app_list, ba_app_list, ba_app_list, ih2 fun q hq => hm q (by simp [hq])]
    congr 1
    rw [V.tail]
    cases hx : x.leaf with
    | true =>
     rw [if_pos rfl, if_pos rfl, ba_app_list, ba_app_list, txt_cons]
     simp [padL, padB, prL, wdL, txt]
    | false =>
     rw [if_neg (by simp), if_neg (by simp), ba_app_list, ih x (hm (y, x) (by simp)), txt_cons]
     simp [padL, padB, wdL]
  rw [V.lay_eq, ba_app_list, linV_eq, txt_app, key1 v.l fun x hx => by have := mem_sizeL hx; omega, key2 v.m fun p hp => by have := mem_sizeM hp; omega]
theorem joinC_txt (c : UInt8) : ∀ ls : List Bs, ls.flatMap (fun x => x ++ [c]) = joinC c (ls ++ [[]])
 | [] => rfl
 | x :: ls => by
  rw [List.flatMap_cons, joinC_txt c ls]
  cases ls with
  | nil => simp [joinC]
  | cons y ls =>
   show x ++ [c] ++ joinC c (y :: (ls ++ [[]])) = joinC c (x :: y :: (ls ++ [[]]))
   rw [joinC_cons]
   simp
theorem txt_join (ls : List (Nat × Bs)) : txt ls = joinC 10 (ls.map padL ++ [[]]) := by
 rw [← joinC_txt]
 unfold txt
 rw [List.flatMap_map]
theorem pad_nl {x : Nat × Bs} (h : LnOk x) : 10 ∉ padL x := fun hm => by
 rcases List.mem_append.1 hm with hm | hm
 ·cases List.eq_of_mem_replicate hm
 ·exact h.nl hm
theorem linesL_pads : ∀ {ls : List (Nat × Bs)}, (∀ x ∈ ls, LnOk x) → linesL (ls.map padL) = some ls
 | [], _ => rfl
 | x :: ls, h => by
  rw [List.map_cons, linesL, show oneLine (padL x) = some (some x) by have := (h x (by simp)).one [] 0 TailOk.nil; rwa [List.append_nil] at this, linesL_pads fun y hy => h y (by simp [hy])]
  rfl
theorem linesT_txt {ls : List (Nat × Bs)} (h : ∀ x ∈ ls, LnOk x) {s : ByteArray} (hs : s.data.toList = txt ls) : linesL ((splT 10 s).map fun x => x.data.toList) = some ls := by
 rw [splT_join (l := ls.map padL ++ [[]]) (by simp) (fun t ht => by
  rcases List.mem_append.1 ht with ht | ht
  ·obtain ⟨x, hx, rfl⟩ := List.mem_map.1 ht
   exact pad_nl (h x hx)
  ·rw [List.mem_singleton.1 ht]; simp) (by rw [hs, txt_join]), linesL_app, linesL_pads h]
 show (match some ls, linesL [[]] with | some x, some y => some (x ++ y) | _, _ => none) = _
 rw [show linesL [[]] = some [] from rfl]
 simp
def emL (v : V) : List (Nat × Bs) := if v.leaf = true then [(0, prL v)] else linV v 0
theorem emL_ok {v : V} (hf : Fit v) : ∀ x ∈ emL v, LnOk x := fun x h => by
 unfold emL at h
 cases hx : v.leaf with
 | true =>
  rw [hx, if_pos rfl] at h
  rw [List.mem_singleton.1 h]
  exact ln_leaf (hf.leafOk hx).w (hf.leafOk hx).dash
 | false =>
  rw [hx, if_neg (by simp)] at h
  exact lin_ok hf hx 0 x h
theorem emL_txt (v : V) : (v.emit wordB prB).data.toList = txt (emL v) := by
 unfold emL
 rw [V.emit]
 cases hx : v.leaf with
 | true => rw [if_pos rfl, if_pos rfl, ba_app_list]; simp [txt, padL, prL]
 | false => rw [if_neg (by simp), if_neg (by simp)]; exact lay_txt _ v (Nat.le_refl _) 0
theorem emL_parse {v : V} (hf : Fit v) (hc : v.checkC = 0) (hz : (v.emit wordB prB).size ≤ 65536) : parseT (emL v) = (v, 0) := by
 have hlt := linesT_txt (emL_ok hf) (emL_txt v)
 unfold emL at hlt ⊢
 cases hx : v.leaf with
 | true =>
  have hL := hf.leafOk hx
  rw [if_pos rfl, parseT_one hL.item hL.spl hL.inl (fun h => absurd rfl h), if_neg (by simp), if_neg (by simp [hc])]
 | false =>
  rw [hx, if_neg (by simp)] at hlt
  rw [if_neg (by simp)]
  obtain ⟨j, t, q, e⟩ : ∃ j t q, linV v 0 = (j, t) :: q ∧ j = 0 := by
   cases hf with
   | leaf hl2 _ => rw [hl2] at hx; cases hx
   | @list l hne hall =>
    obtain ⟨t, q, e, _⟩ := headL hne 0 []
    rw [List.append_nil] at e
    exact ⟨0, t, q, by rw [linV_eq]; show linL l 0 ++ linM [] 0 = _; rw [linM, List.append_nil]; exact e, rfl⟩
   | @map m hne hri hall =>
    obtain ⟨t, q, e, _⟩ := headM hne (fun p hp hl => (hall p hp).leafOk hl) 0 []
    rw [List.append_nil] at e
    exact ⟨0, t, q, by rw [linV_eq]; show linL [] 0 ++ linM m 0 = _; rw [linL, List.nil_append]; exact e, rfl⟩
  obtain ⟨e, rfl⟩ := e
  obtain ⟨b1, b2, b3⟩ := linesT_ok hlt
  have hI : YInv ⟨linV v 0, 0, 0⟩ := ⟨Nat.zero_le _, by simp only; omega, fun y hy => by have := b2 y hy; omega⟩
  have hwy : (YR.mk (linV v 0) 0 0).w = wAt (linV v 0) := rfl
  obtain ⟨st', k1, k2, k3⟩ := reads_all v.size v 0 (3 * wAt (linV v 0) + 3) ⟨linV v 0, 0, 0⟩ [] (Nat.le_refl _) hf hx (by simp) (fun x hx => by cases hx) (fun h => absurd rfl h) (by omega)
  have hro := read_ok (3 * wAt (linV v 0) + 3) .block 0 ⟨linV v 0, 0, 0⟩ hI (by simp only [YMsz]; omega) trivial
  rw [k1] at hro
  have hlen := hro.len
  simp only at hlen k3
  have hat : ¬ st'.at_ < (linV v 0).length := by
   have := List.drop_eq_nil_iff.1 k2
   omega
  rw [e] at k1 hat ⊢
  unfold parseT
  simp only
  rw [k1]
  simp only
  rw [if_neg (by simp [k3]), if_neg hat, if_neg (by simp [hc])]
theorem parse_same {v : V} (hf : Fit v) (hc : v.checkC = 0) (hz : (v.emit wordB prB).size ≤ 65536) {s : ByteArray} (hs : s.size ≤ 65536) (h : linesL ((splT 10 s).map fun x => x.data.toList) = some (emL v)) : parseL s = (v, 0) := by
 unfold parseL
 rw [if_neg (by omega), h]
 exact emL_parse hf hc hz
theorem parse_emit {v : V} (hf : Fit v) (hc : v.checkC = 0) (hz : (v.emit wordB prB).size ≤ 65536) : parseL (v.emit wordB prB) = (v, 0) :=
 parse_same hf hc hz hz (linesT_txt (emL_ok hf) (emL_txt v))
end Go.Proofs.YtnpkejnaeemgjaaGreatDoor
namespace Go.Proofs.YtnpkejnaeemgjaaGreatDoor
set_option maxRecDepth 100000
def b_ref05_Emit : ACode :=
 .seq (gQ [gP 1 0, ⟨gO, .mov 2 (gS ⟨#[]⟩)⟩]) (.seq (.seq (gQ [gA 3 6 1, gC 4 18 [.s 3]]) (.cond (.s 4) (.seq (gQ [gA 5 6 1, gC 6 19 [.s 5], ⟨gO, gB 7 .add (.s 6) (gS ⟨#[10]⟩)⟩, gM 2 7]) .ret) .skip)) (.seq (gQ [gA 8 6 1, gC 9 20 [.s 8, gI 0], gM 2 9]) .ret))
def a_ref05_Emit : AFn := ⟨1, 10, b_ref05_Emit, [.tmp 2]⟩
theorem a_ref05_Emit_ok : fnAF Tryz.prog [] Tryz.f6 = some a_ref05_Emit := by kernel_rfl
theorem a_ref05_Emit_cb : callable Tryz.prog 6 = true := by kernel_rfl
def b_ref05_lay : ACode :=
 .seq (gQ [gP 2 0, ⟨gO, .mov 4 (gS ⟨#[]⟩)⟩]) (.seq (gQ [⟨gO, .mov 5 (gS ⟨#[]⟩)⟩]) (.seq (.seq (gQ [gJ 6 0]) (.block 0 (.loop (.seq (.seq (gQ [gM 8 6, gF 9 4 2, gL 10 9, gH 11 false 10, gV 12 .lss 8 11]) (.cond (.s 12) .skip (.exit 0))) (.seq (.block 1 (.reg [gM 15 5, gM 16 1, gC 17 32 [.s 16], gV 18 .add 15 17, ⟨gO, gB 19 .add (.s 18) (gS ⟨#[45]⟩)⟩, gF 20 4 2, gL 21 20, gM 22 6, gE 23 6 21 22, gA 24 6 23, gM 25 1, gC 26 51 [.s 24, .s 25], gV 27 .add 19 26, gM 5 27])) (.reg [gM 13 6, gU 14 .add 13 1, gM 6 14])))))) (.seq (.seq (gQ [gJ 7 0]) (.block 2 (.loop (.seq (.seq (gQ [gM 28 7, gF 29 5 2, gL 30 29, gH 31 false 30, gV 32 .lss 28 31]) (.cond (.s 32) .skip (.exit 2))) (.seq (.block 3 (.reg [gM 35 5, gM 36 1, gC 37 32 [.s 36], gV 38 .add 35 37, gF 39 5 2, gL 40 39, gM 41 7, gE 42 7 40 41, gF 43 0 42, gL 44 43, gC 45 52 [.s 44], gV 46 .add 38 45, ⟨gO, gB 47 .add (.s 46) (gS ⟨#[58]⟩)⟩, gF 48 5 2, gL 49 48, gM 50 7, gE 51 7 49 50, gF 52 1 51, gA 53 6 52, gM 54 1, gC 55 51 [.s 53, .s 54], gV 56 .add 47 55, gM 5 56])) (.reg [gM 33 7, gU 34 .add 33 1, gM 7 34])))))) (.seq (gQ [gM 57 5, gM 4 57]) .ret))))
def a_ref05_lay : AFn := ⟨2, 58, b_ref05_lay, [.tmp 4]⟩
theorem a_ref05_lay_ok : fnAF Tryz.prog [] Tryz.f20 = some a_ref05_lay := by kernel_rfl
theorem a_ref05_lay_cb : callable Tryz.prog 20 = true := by kernel_rfl
def b_ref05_tail : ACode :=
 .seq (gQ [gP 2 0, ⟨gO, .mov 4 (gS ⟨#[]⟩)⟩]) (.seq (.seq (gQ [gA 5 6 2, gC 6 18 [.s 5]]) (.cond (.s 6) (.seq (gQ [gA 7 6 2, gC 8 19 [.s 7], ⟨gO, gB 9 .add (gS ⟨#[32]⟩) (.s 8)⟩, ⟨gO, gB 10 .add (.s 9) (gS ⟨#[10]⟩)⟩, gM 4 10]) .ret) .skip)) (.seq (gQ [gA 11 6 2, gM 12 1, gU 13 .add 12 2, gC 14 20 [.s 11, .s 13], ⟨gO, gB 15 .add (gS ⟨#[10]⟩) (.s 14)⟩, gM 4 15]) .ret))
def a_ref05_tail : AFn := ⟨2, 16, b_ref05_tail, [.tmp 4]⟩
theorem a_ref05_tail_ok : fnAF Tryz.prog [] Tryz.f51 = some a_ref05_tail := by kernel_rfl
theorem a_ref05_tail_cb : callable Tryz.prog 51 = true := by kernel_rfl
def b_ref05_blanks : ACode :=
 .seq (gQ [⟨gO, .mov 2 (gS ⟨#[]⟩)⟩]) (.seq (gQ [⟨gO, .mov 3 (gS ⟨#[]⟩)⟩]) (.seq (.seq (gQ [gJ 4 0]) (.block 0 (.loop (.seq (.seq (gQ [gM 5 4, gM 6 0, gV 7 .lss 5 6]) (.cond (.s 7) .skip (.exit 0))) (.seq (.block 1 (.reg [gM 10 3, ⟨gO, gB 11 .add (.s 10) (gS ⟨#[32]⟩)⟩, gM 3 11])) (.reg [gM 8 4, gU 9 .add 8 1, gM 4 9])))))) (.seq (gQ [gM 12 3, gM 2 12]) .ret)))
def a_ref05_blanks : AFn := ⟨1, 13, b_ref05_blanks, [.tmp 2]⟩
theorem a_ref05_blanks_ok : fnAF Tryz.prog [] Tryz.f32 = some a_ref05_blanks := by kernel_rfl
theorem a_ref05_blanks_cb : callable Tryz.prog 32 = true := by kernel_rfl
def b_ref05_empty : ACode :=
 .seq (gQ [gP 1 0, ⟨gO, .mov 2 (.k (.bool false))⟩]) (.seq (gQ [gF 3 4 1, gL 4 3, gH 5 false 4, gU 6 .eql 5 0, gM 7 6, ⟨some (7, true), .off 8 5 (.s 1)⟩, ⟨some (7, true), .ld 9 1 false (.s 8)⟩, ⟨some (7, true), .len 10 false (.s 9)⟩, ⟨some (7, true), .bin 11 .eql false (.s 10) (gI 0)⟩, ⟨gO, .pick 12 (.s 7) (.s 11) (.k (.bool false))⟩, gM 2 12]) .ret)
def a_ref05_empty : AFn := ⟨1, 13, b_ref05_empty, [.tmp 2]⟩
theorem a_ref05_empty_ok : fnAF Tryz.prog [] Tryz.f18 = some a_ref05_empty := by kernel_rfl
theorem a_ref05_empty_cb : callable Tryz.prog 18 = true := by kernel_rfl
def b_ref05_key : ACode :=
 .seq (gQ [⟨gO, .mov 2 (gS ⟨#[]⟩)⟩]) (.seq (gQ [gM 3 0, ⟨gO, .build 4 gZ [(0, 1, gI 3), (3, 1, .s 3)]⟩, gC 5 19 [.s 4], gM 2 5]) .ret)
def a_ref05_key : AFn := ⟨1, 6, b_ref05_key, [.tmp 2]⟩
theorem a_ref05_key_ok : fnAF Tryz.prog [] Tryz.f52 = some a_ref05_key := by kernel_rfl
theorem a_ref05_key_cb : callable Tryz.prog 52 = true := by kernel_rfl
end Go.Proofs.YtnpkejnaeemgjaaGreatDoor
