/-
  The texts that the claim wants, one behind the other: part 41.
-/
import Derived.Test.YtgidajjjpeboeaaGreatDoorS40
set_option linter.unusedSimpArgs false
set_option linter.unusedVariables false
namespace Go.Proofs.YtgidajjjpeboeaaGreatDoor
open Go.RowKit Go.Maps Go.MapKept Go.ChangeMaps
theorem MSX.imp {ι κ : Type} {P : Program} {f : FuncId} {S : List (Nat × List AV)} {args : List AV} {I : ι → Prop} {S' : ι → List (Nat × List AV)} {r : ι → AV} {J : κ → Prop} {T' : κ → List (Nat × List AV)} {r' : κ → AV} (h : MSX P f S args I S' r) (g : ι → κ) (hI : ∀ i, I i → J (g i)) (hS : ∀ i, T' (g i) = S' i) (hr : ∀ i, r' (g i) = r i) : MSX P f S args J T' r' :=
 ⟨h.cb, fun σ w B vs h1 h2 h3 h4 h5 h6 h7 => (h.run σ w B vs h1 h2 h3 h4 h5 h6 h7).mono fun e w' ⟨i, hi, hh⟩ => ⟨g i, hI i hi, by rw [hS, hr]; exact hh⟩⟩
structure CluJ (k : Nat) (cl : Clu) : Prop where
 i : CluI cl
 len : cl.has.length ≤ k
 last : cl.last ≤ k
 nf : cl.fails.length ≤ k
abbrev OkI (i : OId) : Prop := i.k.size ≤ 140737488355328 ∧ i.s.size ≤ 140737488355328 ∧ i.n.size ≤ 140737488355328
theorem CluI.ok {cl : Clu} (h : CluI cl) : CluOk cl := ⟨h.k.ok.nd, h.k.ok.size, h.k.ok.len⟩
theorem CluJ.new : CluJ 0 Clu.new := ⟨⟨⟨⟨.nil, (fun e he => by cases he), (by show (0 : Nat) ≤ _; omega)⟩, (fun e he => by cases he), (by show (0 : Int) ≤ 0 ∧ (0 : Int) ≤ _; omega), (by show (-1000 : Int) ≤ (0 : Int) ∧ (0 : Int) ≤ 1000; omega), (fun n hn => by cases hn), (by show (0 : Nat) ≤ _; omega)⟩, (by show (-9223372036854775808 : Int) ≤ -1 ∧ (-1 : Int) ≤ _; omega), (fun n hn => by cases hn), (by show (0 : Nat) ≤ _; omega)⟩, Nat.le_refl _, (by show (0 : Int) ≤ _; omega), Nat.le_refl _⟩
theorem CluJ.more {k k' : Nat} (hk : k ≤ k') {cl : Clu} (h : CluJ k cl) : CluJ k' cl := ⟨h.i, Nat.le_trans h.len hk, by have := h.last; omega, Nat.le_trans h.nf hk⟩
theorem CluJ.write {k : Nat} {cl : Clu} (h : CluJ k cl) : CluJ k cl.write.2 := ⟨h.i.write, by rw [(write_has cl).1]; exact h.len, by rw [(write_has cl).2]; exact h.last, by
 unfold Clu.write
 split
 ·exact h.nf
 ·exact Nat.le_trans (leftJ_len cl.fails) h.nf⟩
theorem CluJ.put {k : Nat} (hk : k ≤ 1000) {cl : Clu} (h : CluJ k cl) {i : OId} {v : V} (hi : OkI i) (hv : v.size ≤ 1000000) : CluJ (k + 1) (cl.put i v) := by
 have h1 := h.len
 have h2 := h.last
 have h3 := h.nf
 refine ⟨⟨CluK.put (cl := cl.nf) h.i.k hi hv (by show cl.has.length < _; omega) (by show cl.last < _; omega), h.i.fuse, h.i.fails⟩, ?_, ?_, by show cl.fails.length ≤ _; omega⟩
 ·have := putE_len cl.has ⟨i, v, cl.last + 1⟩
  show (putE cl.has ⟨i, v, cl.last + 1⟩).length ≤ _
  omega
 ·show cl.last + 1 ≤ _
  omega
theorem CluJ.filter {k : Nat} {cl : Clu} (h : CluJ k cl) (p : CEnt → Bool) : CluJ k { cl with has := cl.has.filter p } := ⟨⟨CluK.filter (cl := cl.nf) h.i.k p, h.i.fuse, h.i.fails⟩, Nat.le_trans (List.length_filter_le _ _) h.len, h.last, h.nf⟩
theorem CluJ.create {k : Nat} (hk : k ≤ 1000) {cl : Clu} (h : CluJ k cl) (wr : Int) {i : OId} {v : V} (hi : OkI i) (hv : v.size ≤ 1000000) : CluJ (k + 1) (cl.create wr i v).2 := by
 unfold Clu.create
 split
 ·exact h.more (by omega)
 ·split
  ·exact h.write.more (by omega)
  ·split
   ·exact h.write.more (by omega)
   ·exact h.write.put hk hi hv
theorem CluJ.patch {k : Nat} (hk : k ≤ 1000) {cl : Clu} (h : CluJ k cl) (wr : Int) {i : OId} (n : Int) {v : V} (hi : OkI i) (hv : v.size ≤ 1000000) : CluJ (k + 1) (cl.patch wr i n v).2 := by
 unfold Clu.patch
 split
 ·exact h.more (by omega)
 ·split
  ·exact h.write.more (by omega)
  ·split
   ·exact h.write.more (by omega)
   ·split
    ·exact h.write.more (by omega)
    ·exact h.write.put hk hi hv
theorem CluJ.delete {k : Nat} {cl : Clu} (h : CluJ k cl) (i : OId) : CluJ (k + 1) (cl.delete i).2 := by
 unfold Clu.delete
 split
 ·exact h.write.more (by omega)
 ·split
  ·exact h.write.more (by omega)
  ·have h2 := h.write.filter fun e => decide (e.id ≠ i)
   rw [(write_has cl).1] at h2
   exact h2.more (by omega)
theorem CluJ.edit {k : Nat} (hk : k ≤ 1000) {cl : Clu} (h : CluJ k cl) (wr : Int) {i : OId} {v : V} (hi : OkI i) (hv : v.size ≤ 1000000) : CluJ (k + 1) (cl.edit wr i v).2 := by
 unfold Clu.edit
 split
 ·exact h.more (by omega)
 ·split
  ·exact (h.filter _).more (by omega)
  ·exact h.put hk hi hv
theorem CluJ.fail {k : Nat} (hk : k ≤ 1000) {cl : Clu} (h : CluJ k cl) {n : Int} (hn : -9223372036854775808 ≤ n ∧ n ≤ 9223372036854775807) : CluJ (k + 1) { cl with fails := cl.fails ++ [n] } := by
 have h3 := h.nf
 have h4 : (cl.fails ++ [n]).length = cl.fails.length + 1 := by simp
 refine ⟨⟨h.i.k, h.i.fuse, fun x hx => ?_, by show (cl.fails ++ [n]).length ≤ _; omega⟩, by have := h.len; show cl.has.length ≤ _; omega, by have := h.last; show cl.last ≤ _; omega, by show (cl.fails ++ [n]).length ≤ _; omega⟩
 rcases List.mem_append.1 hx with hx | hx
 ·exact h.i.fails.1 x hx
 ·rw [List.mem_singleton.1 hx]; exact hn
theorem CluJ.fuse {k : Nat} {cl : Clu} (h : CluJ k cl) {n : Int} (hn : -9223372036854775808 ≤ n ∧ n ≤ 9223372036854775807) : CluJ k { cl with fuse := n } := ⟨⟨h.i.k, hn, h.i.fails⟩, h.len, h.last, h.nf⟩
theorem CluJ.restart {k : Nat} {cl : Clu} (h : CluJ k cl) : CluJ k { cl with down := false, fuse := -1, fails := [] } := ⟨⟨⟨⟨h.i.k.ok.nd, h.i.k.ok.size, h.i.k.ok.len⟩, h.i.k.ids, h.i.k.last, h.i.k.fuse, h.i.k.fails⟩, (by show (-9223372036854775808 : Int) ≤ -1 ∧ (-1 : Int) ≤ _; omega), (fun n hn => by cases hn), (by show (0 : Nat) ≤ _; omega)⟩, h.len, h.last, Nat.zero_le _⟩
abbrev YY (cl : Clu) : FI → List (Nat × List AV) := cluY 2000000 2900001 2000001 1000001 cl
theorem create_0 (cl : Clu) (hs : cl.fails = []) (wr : Int) (i : OId) (v : V) : (cl.create wr i v).2.fails = [] := by
 unfold Clu.create
 split
 ·exact hs
 ·split
  ·exact write_nil cl hs
  ·split
   ·exact write_nil cl hs
   ·exact write_nil cl hs
theorem patch_0 (cl : Clu) (hs : cl.fails = []) (wr : Int) (i : OId) (n : Int) (v : V) : (cl.patch wr i n v).2.fails = [] := by
 unfold Clu.patch
 split
 ·exact hs
 ·split
  ·exact write_nil cl hs
  ·split
   ·exact write_nil cl hs
   ·split
    ·exact write_nil cl hs
    ·exact write_nil cl hs
theorem delete_0 (cl : Clu) (hs : cl.fails = []) (i : OId) : (cl.delete i).2.fails = [] := by
 unfold Clu.delete
 split
 ·exact write_nil cl hs
 ·split
  ·exact write_nil cl hs
  ·exact write_nil cl hs
theorem edit_f (cl : Clu) (wr : Int) (i : OId) (v : V) : (cl.edit wr i v).2.fails = cl.fails := by
 unfold Clu.edit
 split
 ·rfl
 ·split <;> rfl
theorem get_size (cl : Clu) (h : CluOk cl) (i : OId) : (cl.get i).1.size ≤ 1000000 := by
 unfold Clu.get
 split
 ·show V.null.size ≤ _
  decide +kernel
 ·split
  ·show V.null.size ≤ _
   decide +kernel
  ·rename_i e he
   unfold Clu.find at he
   exact h.size e (List.mem_of_find?_eq_some he)
theorem fail_n (cl : Clu) (h0 : cl.fails = []) (n : Int) : MSX Tryz.prog 36 (cluN 2000000 2900001 cl) [.np 2000000 0, .lst .any 1 (rowsJ [n])] (cluFI (cl.fails ++ [n])) (fun i => cluO 2000000 2900001 1000001 { cl with fails := cl.fails ++ [n] } i) (fun _ => .tup []) := by
 refine (fail_nil (rowsE cl.has) cl.last cl.fuse cl.down n).imp (fun i => i) (fun i hi => ?_) (fun i => ?_) fun _ => rfl
 ·rw [h0]
  exact hi
 ·unfold cluO
  rw [h0]
  rfl
theorem fail_o (cl : Clu) (hk : cl.fails.length ≤ 1000000) (ix : Nat × Nat) (hs : cluFI cl.fails ix) (n : Int) : MSX Tryz.prog 36 (cluO 2000000 2900001 2000001 cl ix) [.np 2000000 0, .lst .any 1 (rowsJ [n])] (cluFI (cl.fails ++ [n])) (fun i => cluO 2000000 2900001 1000001 { cl with fails := cl.fails ++ [n] } i) (fun _ => .tup []) := fail_more (rowsE cl.has) cl.last cl.fuse cl.down cl.fails hk ix hs n
theorem restart_n (cl : Clu) : MS Tryz.prog 37 (cluN 2000000 2900001 cl) [.np 2000000 0] (cluN 2000000 2900001 { cl with down := false, fuse := -1, fails := [] }) (.tup []) := by
 obtain ⟨has, last, fails, fuse, down⟩ := cl
 refine MS.enter Tryz.func37 a_cluster_Cluster_Restart_ok a_cluster_Cluster_Restart_cb (by rfl) (by rfl) fun E hE => ?_
 show AK _ _ _ [.c b_cluster_Cluster_Restart] _ _
 rw [b_cluster_Cluster_Restart]
 refine kS ?_
 refine kP [] ?_ ?_
 ·((repeat' apply And.intro) <;> first | exact kD | (intro hgd; refine ⟨?_, kG⟩; (repeat' apply And.intro) <;> first | exact kD | skip) | skip)
  ·exact fun g o => someClu true g o
 refine kCt ?_
 refine kQ [] ?_
 show RQS _ _ _ .normal _ _
 exact ⟨⟨_, rfl, rfl⟩, ⟨_, rfl, rfl⟩, ⟨_, rfl, rfl⟩, trivial⟩
theorem restart_o (cl : Clu) (ix : Nat × Nat) : MS Tryz.prog 37 (cluO 2000000 2900001 2000001 cl ix) [.np 2000000 0] (cluN 2000000 2900001 { cl with down := false, fuse := -1, fails := [] }) (.tup []) := by
 obtain ⟨has, last, fails, fuse, down⟩ := cl
 obtain ⟨cap, sp⟩ := ix
 refine MS.enter Tryz.func37 a_cluster_Cluster_Restart_ok a_cluster_Cluster_Restart_cb (by rfl) ?_ fun E hE => ?_
 ·unfold okInS
  show (true && (true && (((rowsJ fails).flatten ++ List.replicate sp AV.top).all AV.okIn && true)) && true) = true
  rw [all_rowsJ (fun _ => rfl) rfl]
  rfl
 show AK _ _ _ [.c b_cluster_Cluster_Restart] _ _
 rw [b_cluster_Cluster_Restart]
 refine kS ?_
 refine kP [] ?_ ?_
 ·((repeat' apply And.intro) <;> first | exact kD | (intro hgd; refine ⟨?_, kG⟩; (repeat' apply And.intro) <;> first | exact kD | skip) | skip)
  ·exact fun g o => someClu true g o
 refine kCt ?_
 refine kQ [] ?_
 show RQS _ _ _ .normal _ _
 exact ⟨⟨_, rfl, rfl⟩, ⟨_, rfl, rfl⟩, ⟨_, rfl, rfl⟩, trivial⟩
end Go.Proofs.YtgidajjjpeboeaaGreatDoor
namespace Go.Proofs.YtgidajjjpeboeaaGreatDoor
open Go.RowKit
structure XSpec where
 ι : Type
 I : ι → Prop
 S' : ι → List (Nat × List AV)
 r : ι → AV
 ids : List Nat
def callX (P : Program) (sp : XSpec) (d : Option Nat) (f : FuncId) (xs : List Opd) (fr : Fr) (st : St) (T : Fr → St → Prop) : Prop :=
 match evs fr xs with
 | some av => match argsN av, handS st.box sp.ids with
  | some bs, some S => MSX P f S bs sp.I sp.S' sp.r ∧ (∀ i, sp.I i → (okS sp.ids (sp.S' i) (sp.r i) && freeIds st.box (newIds sp.ids (sp.S' i))) = true) ∧
    ∀ i, sp.I i → T (match d with | some d => put1 (clrF (newIds sp.ids (sp.S' i)) fr) d (sp.r i) | none => clrF (newIds sp.ids (sp.S' i)) fr) ⟨putS (clrB (newIds sp.ids (sp.S' i)) st.box) sp.ids (sp.S' i), st.row⟩
  | _, _ => False
 | none => False
def stepX (P : Program) (X : Option XSpec) (x : GI) (rs : Option RS) (fr : Fr) (st : St) (T : Fr → St → Prop) : Prop :=
 match X with
 | none => match gstep P x rs fr st with
  | none => False
  | some (f, s, p) => p ∧ T f s
 | some sp => match x with
  | ⟨none, .calls d (.k (.fn f [])) xs⟩ => callX P sp d f xs fr st T
  | _ => False
def anyB (P : Program) (ops : Array Oper) (S : List (GI × Option RS)) (X : Nat → Option XSpec) (R : Fr → St → Prop) : Nat → Array Bool → Fr → St → Prop
 | 0, listed, fr, st => Region.ready .any ops listed = [] ∧ R fr st
 | n + 1, listed, fr, st => (Region.ready .any ops listed = [] → R fr st) ∧ ∀ i ∈ Region.ready .any ops listed, ∃ x rs, S[i]? = some (x, rs) ∧ stepX P (X i) x rs fr st fun f s => anyB P ops S X R n (listed.setIfInBounds i true) f s
theorem stepX_calls {P : Program} {sp : XSpec} {x : GI} {rs : Option RS} {fr : Fr} {st : St} {T : Fr → St → Prop} (h : stepX P (some sp) x rs fr st T) : ∃ d f xs, x = ⟨none, .calls d (.k (.fn f [])) xs⟩ ∧ callX P sp d f xs fr st T := by
 unfold stepX at h
 simp only at h
 split at h
 ·exact ⟨_, _, _, rfl, h⟩
 ·exact h.elim
theorem stepX_none {P : Program} {x : GI} {rs : Option RS} {fr : Fr} {st : St} {T : Fr → St → Prop} (h : stepX P none x rs fr st T) : ∃ f s p, gstep P x rs fr st = some (f, s, p) ∧ p ∧ T f s := by
 unfold stepX at h
 simp only at h
 split at h
 ·exact h.elim
 ·exact ⟨_, _, _, by assumption, h.1, h.2⟩
theorem stepX_mk {P : Program} {x : GI} {rs : Option RS} {fr : Fr} {st : St} {T : Fr → St → Prop} {f : Fr} {s : St} {p : Prop} (h1 : gstep P x rs fr st = some (f, s, p)) (h2 : p) (h3 : T f s) : stepX P none x rs fr st T := by
 unfold stepX
 simp only
 rw [h1]
 exact ⟨h2, h3⟩
theorem anyB_first {P : Program} {ops : Array Oper} {S : List (GI × Option RS)} {X : Nat → Option XSpec} {R : Fr → St → Prop} {i : Nat} {xi : GI} {ri : Option RS} (hi : S[i]? = some (xi, ri)) (hXi : X i = none) :
  ∀ (fuel : Nat) (listed : Array Bool) (fr f1 : Fr) (st s1 : St) (p : Prop), ClosedL ops listed → (∀ j xj rj oj, S[j]? = some (xj, rj) → ops[j]? = some oj → j ≠ i → listed.getD j true = false → depN ops ops.size j i = false → indep xi xj = true) →
   i ∈ Region.ready .any ops listed → gstep P xi ri fr st = some (f1, s1, p) → p → anyB P ops S X R fuel (listed.setIfInBounds i true) f1 s1 → anyB P ops S X R (fuel + 1) listed fr st := by
 intro fuel
 induction fuel with
 | zero =>
  intro listed fr f1 st s1 p _ _ hr hs hp H
  refine ⟨fun h => (by rw [h] at hr; cases hr), fun j hj => ?_⟩
  by_cases hji : j = i
  ·subst hji
   refine ⟨xi, ri, hi, ?_⟩
   rw [hXi]
   exact stepX_mk hs hp H
  ·have := ready_mono hj hji
   rw [H.1] at this
   cases this
 | succ fuel ih =>
  intro listed fr f1 st s1 p hcl hfree hr hs hp H
  refine ⟨fun h => (by rw [h] at hr; cases hr), fun j hj => ?_⟩
  by_cases hji : j = i
  ·subst hji
   refine ⟨xi, ri, hi, ?_⟩
   rw [hXi]
   exact stepX_mk hs hp H
  ·obtain ⟨xj, rj, hSj, hst⟩ := H.2 j (ready_mono hj hji)
   obtain ⟨hjun, oj, hoj, hall⟩ := mem_ready.1 hj
   have hnot := depN_false hcl (mem_ready.1 hr).1 ops.size j oj hoj hall
   have hind := hfree j xj rj oj hSj hoj hji hjun hnot
   cases hXj : X j with
   | some sp =>
    rw [hXj] at hst
    obtain ⟨d, f, xs, rfl, _⟩ := stepX_calls hst
    unfold indep at hind
    rw [Bool.and_eq_true] at hind
    exact absurd rfl (okPair_hard hind.2).2
   | none =>
    rw [hXj] at hst
    obtain ⟨f2, s2, q, hsj, hq, h3⟩ := stepX_none hst
    obtain ⟨f1', s1', k1, k2⟩ := diamond hind hs hsj
    refine ⟨xj, rj, hSj, ?_⟩
    refine stepX_mk k1 hq (ih (listed.setIfInBounds j true) f1' f2 s1' s2 p (hcl.set hj) (fun k xk rk ok hSk hok hki hun hno => ?_) (ready_mono hr (Ne.symm hji)) k2 hp ?_)
    ·refine hfree k xk rk ok hSk hok hki ?_ hno
     by_cases hjk : j = k
     ·subst hjk; exact hjun
     ·rw [getD_set_ne true hjk] at hun; exact hun
    ·rw [Array.setIfInBounds_comm _ _ hji]
     exact h3
def anyF (P : Program) (ds : List (List Nat)) (S : List (GI × Option RS)) (X : Nat → Option XSpec) (R : Fr → St → Prop) : Nat → Array Bool → Fr → St → Prop
 | 0, listed, fr, st => match rdy ds listed with
  | [] => R fr st
  | _ => False
 | n + 1, listed, fr, st => match rdy ds listed with
  | [] => R fr st
  | l => match l.find? (fun i => (X i).isNone && freeD ds S listed i) with
   | some i => match S[i]? with
    | none => False
    | some (x, rs) => stepX P none x rs fr st fun f s => anyF P ds S X R n (listed.setIfInBounds i true) f s
   | none => allP (fun i => match S[i]? with
    | none => False
    | some (x, rs) => stepX P (X i) x rs fr st fun f s => anyF P ds S X R n (listed.setIfInBounds i true) f s) l
theorem stepX_imp {P : Program} {X : Option XSpec} {x : GI} {rs : Option RS} {fr : Fr} {st : St} {T T' : Fr → St → Prop} (hT : ∀ f s, T f s → T' f s) (h : stepX P X x rs fr st T) : stepX P X x rs fr st T' := by
 cases X with
 | none =>
  obtain ⟨f, s, p, h1, h2, h3⟩ := stepX_none h
  exact stepX_mk h1 h2 (hT _ _ h3)
 | some sp =>
  obtain ⟨d, f, xs, e, h0⟩ := stepX_calls h
  clear h
  subst e
  have h := h0
  clear h0
  show callX P sp d f xs fr st T'
  unfold callX at h ⊢
  cases hav : evs fr xs with
  | none => rw [hav] at h; exact h.elim
  | some av =>
   rw [hav] at h
   simp only at h ⊢
   cases hbs : argsN av with
   | none => rw [hbs] at h; exact h.elim
   | some bs =>
    rw [hbs] at h
    cases hSS : handS st.box sp.ids with
    | none => rw [hSS] at h; exact h.elim
    | some S0 =>
     rw [hSS] at h
     exact ⟨h.1, h.2.1, fun i hi => hT _ _ (h.2.2 i hi)⟩
theorem anyB_of_anyF {P : Program} {ops : Array Oper} {S : List (GI × Option RS)} {X : Nat → Option XSpec} {R : Fr → St → Prop} : ∀ (n : Nat) (listed : Array Bool) (fr : Fr) (st : St), ClosedL ops listed → anyF P (depsOf ops) S X R n listed fr st → anyB P ops S X R n listed fr st
 | 0, listed, fr, st, _, h => by
  unfold anyF at h
  split at h
  ·rename_i he
   refine ⟨List.eq_nil_iff_forall_not_mem.2 fun j hj => ?_, h⟩
   have := mem_rdy.2 hj
   rw [he] at this
   cases this
  ·exact h.elim
 | n + 1, listed, fr, st, hcl, h => by
  unfold anyF at h
  split at h
  ·rename_i he
   refine ⟨fun _ => h, fun j hj => ?_⟩
   have := mem_rdy.2 hj
   rw [he] at this
   cases this
  ·rename_i hne
   split at h
   ·rename_i i hfi
    have hir := mem_rdy.1 (List.mem_of_find?_eq_some hfi)
    have hfree := List.find?_some hfi
    rw [Bool.and_eq_true] at hfree
    obtain ⟨hXi, hfree⟩ := hfree
    have hXi : X i = none := by simpa using hXi
    split at h
    ·exact h.elim
    ·rename_i x rs hS
     obtain ⟨fr', st', p, hg, hp, h3⟩ := stepX_none h
     unfold freeD at hfree
     rw [hS] at hfree
     simp only at hfree
     refine anyB_first hS hXi n listed fr fr' st st' p hcl (fun j xj rj oj hSj hoj hji hun hno => ?_) hir hg hp (anyB_of_anyF n _ fr' st' (hcl.set hir) h3)
     have hj : j < (depsOf ops).length := by
      have := (Array.getElem?_eq_some_iff.1 hoj).1
      simpa [depsOf] using this
     have hz : (depsOf ops).length = ops.size := by simp [depsOf]
     have h3 := List.all_eq_true.1 hfree j (by simpa using hj)
     rw [hSj, depB_eq, hz] at h3
     simp only [Bool.or_eq_true] at h3
     rcases h3 with ((h3 | h3) | h3) | h3
     ·exact absurd (Nat.eq_of_beq_eq_true h3) hji
     ·rw [hun] at h3; cases h3
     ·rw [hno] at h3; cases h3
     ·exact h3
   ·refine ⟨fun h0 => ?_, fun j hj => ?_⟩
    ·exfalso
     refine hne (List.eq_nil_iff_forall_not_mem.2 fun j hj => ?_)
     have := mem_rdy.1 hj
     rw [h0] at this
     cases this
    ·have h2 := allP_mem h j (mem_rdy.2 hj)
     split at h2
     ·exact h2.elim
     ·rename_i x rs hS
      exact ⟨x, rs, hS, stepX_imp (fun f s h => anyB_of_anyF n _ f s (hcl.set hj) h) h2⟩
theorem wpAny_of_anyB {P : Program} {mu : List Nat} {E : Env} {ops : Array Oper} {gl : List GI} {S : List (GI × Option RS)} {X : Nat → Option XSpec} (hS : S.map (·.1) = gl) (hat : At P mu ops gl) (hd : dstsLt E.n gl = true) {R : Fr → St → Prop} {Q : Exit → Act → World → Prop} (hQ : ∀ fr st G a w, R fr st → Conc E G fr st a w → Q .normal a w) :
  ∀ (fuel : Nat) (listed : Array Bool) (fr : Fr) (st : St) (G : Gho) (a : Act) (w : World), Conc E G fr st a w → anyB P ops S X R fuel listed fr st → wpAny P .any ops Q fuel listed a w
 | 0, listed, fr, st, G, a, w, hc, h => ⟨h.1, hQ _ _ _ _ _ h.2 hc⟩
 | fuel + 1, listed, fr, st, G, a, w, hc, h => by
  refine ⟨fun h0 => hQ _ _ _ _ _ (h.1 h0) hc, fun i hi => ?_⟩
  obtain ⟨x, rs, hSi, hst⟩ := h.2 i hi
  have hg : gl[i]? = some x := by rw [← hS, List.getElem?_map, hSi]; rfl
  have hil : i < ops.size := by
   rw [← hat.1]
   exact (List.getElem?_eq_some_iff.1 hg).1
  have ho : ops[i]? = some ops[i] := Array.getElem?_eq_getElem hil
  unfold wpOp
  simp only [ho]
  cases hXi : X i with
  | none =>
   rw [hXi] at hst
   obtain ⟨fr', st', p, hs, hp, h3⟩ := stepX_none hst
   have hg2 := gsim (Q := Q) (K := wpAny P .any ops Q fuel (listed.setIfInBounds i true)) hc hat ho hg hs hp (dstsLt_at hd hg) (fun G' a' w' hc' => wpAny_of_anyB hS hat hd hQ fuel _ fr' st' G' a' w' hc' h3)
   split at hg2
   ·rename_i hw; rw [if_pos hw]; exact .inl hg2
   ·rename_i hw; rw [if_neg hw]; exact hg2
  | some sp =>
   rw [hXi] at hst
   obtain ⟨d, f, xs, e, h⟩ := stepX_calls hst
   clear hst
   subst e
   obtain ⟨h1, h2, h3⟩ := hat.2 i _ _ ho hg
   rw [ctx_none (i := .calls d (.k (.fn f [])) xs) (fr := fun _ => none) h1 rfl, if_pos rfl]
   refine .inl ?_
   obtain ⟨c, fo, k1, k2, k3, k4, k5⟩ := calls_of h2
   obtain ⟨us, hfe, hus⟩ := fn_open (hc.ev k3 (show Opd.ev fr (.k (.fn f [])) = some (.fn f []) from rfl)).1
   subst k5
   unfold callX at h
   cases hav : evs fr xs with
   | none => rw [hav] at h; exact h.elim
   | some av =>
    rw [hav] at h
    simp only at h
    split at h
    ·rename_i bs S' hbs hSS
     obtain ⟨hM, hok, hT⟩ := h
     exact call_msx (I := sp.I) (S' := sp.S') (r := sp.r) hc k1 k2 hfe hus k4 hav hbs hSS hok (by rw [List.append_nil]; exact hM) (fun d hd' => dstsLt_at hd hg d hd') fun i' hi' G' a' w' hC' => wpAny_of_anyB hS hat hd hQ fuel _ _ _ G' a' w' hC' (hT i' hi')
    ·exact h.elim
theorem AK.regaX {P : Program} {E : Env} {Q : Exit → Fr → St → Prop} {k : List AItem} {fr : Fr} {st : St} (hm : P.follows .mixedOrders = true) {l : List GI} {ds : List (List Nat)} (rs : List RS) (X : Nat → Option XSpec) {κ : Type} (K : κ → Prop) (f0 : κ → Fr) (s0 : κ → St)
  (hA : anyF P ds (mkS l rs) X (fun f s => ∃ i, K i ∧ Weak f s (f0 i) (s0 i)) ds.length (Array.replicate ds.length false) fr st) (h : ∀ i, K i → AK P E Q k (f0 i) (s0 i)) : AK P E Q (.c (.rega l ds) :: k) fr st := by
 intro hd mu c G ac w hc _ hC
 cases c with
 | region id ops dr =>
  simp only [codeAC] at hc
  split at hc
  ·rename_i l' hl
   split at hc
   ·split at hc <;> cases hc
   ·split at hc
    ·cases hc
     refine wp_region_any hm ?_
     have hz : (depsOf ops).length = ops.size := by simp [depsOf]
     rw [hz] at hA
     refine wpAny_of_anyB (mkS_map _ _) (at_of hl) hd (fun f s G' a' w' hR hc => ?_) _ _ fr st G ac _ (hC.same ?_) (anyB_of_anyF _ _ _ _ (fun j o _ hj => by simp [Array.getD_eq_getD_getElem?, Array.getElem?_replicate] at hj; split at hj <;> simp at hj) hA)
     ·obtain ⟨i, hi, hR⟩ := hR
      obtain ⟨G2, hC2⟩ := hR E G' a' w' hc
      exact ⟨G2, f0 i, s0 i, hC2, h i hi⟩
     ·exact (Below.refl w.heap.size w).drew
    ·cases hc
  ·cases hc
 | cond x t e => simp only [codeAC] at hc; split at hc <;> cases hc
 | seq x y => simp only [codeAC] at hc; split at hc <;> cases hc
 | block id b => simp only [codeAC] at hc; split at hc <;> cases hc
 | loop b => simp only [codeAC] at hc; split at hc <;> cases hc
 | _ => cases hc
end Go.Proofs.YtgidajjjpeboeaaGreatDoor
