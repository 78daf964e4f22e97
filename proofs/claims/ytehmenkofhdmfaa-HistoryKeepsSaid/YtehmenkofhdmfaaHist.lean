/-
  The walks of the functions on revisions: history's Next, With, Base, Old, Find and the document's.
-/
import Derived.Test.YtehmenkofhdmfaaChecked
import Derived.Test.YtehmenkofhdmfaaLaws
import Derived.WalkLawsBesides
import Derived.WalkSpells
import Derived.Deep.QuietTactic
import Derived.BigQuiet
namespace Go.Proofs.Ytehmenkofhdmfaa
set_option linter.unusedSimpArgs false
set_option linter.unusedVariables false
open Go.RowKit

theorem ret_int {k : IntKind} {a b : Int} (h : a = b) : Ending.returned (.int k a) = .returned (.int k b) := by rw [h]

structure Rec where
  rel : ByteArray
  rev : Int
  st : Int
  cmd : Int
  ch : ByteArray
  va : ByteArray
  ma : ByteArray
def Rec.cells (r : Rec) : List Value := [.string r.rel, .int .i64 r.rev, .int .i64 r.st, .int .i64 r.cmd, .string r.ch, .string r.va, .string r.ma]
def RecR (cs : List Value) (r : Rec) : Prop := cs = r.cells

theorem recs_at {w : World} {B : Nat} {A : Option Addr} {l : List Rec} (h : SlAt 7 RecR w B A l) {k : Nat} (hk : k < l.length) :
    ∃ b o r, A = some ⟨b, o, none⟩ ∧ b < B ∧ l[k]? = some r ∧ w.cell? ⟨b, o + k * 7, none⟩ = some (.string r.rel) ∧ w.cell? ⟨b, o + k * 7 + 1, none⟩ = some (.int .i64 r.rev) ∧ w.cell? ⟨b, o + k * 7 + 2, none⟩ = some (.int .i64 r.st) ∧
      w.cell? ⟨b, o + k * 7 + 3, none⟩ = some (.int .i64 r.cmd) ∧ w.cell? ⟨b, o + k * 7 + 4, none⟩ = some (.string r.ch) ∧ w.cell? ⟨b, o + k * 7 + 5, none⟩ = some (.string r.va) ∧ w.cell? ⟨b, o + k * 7 + 6, none⟩ = some (.string r.ma) := by
  obtain ⟨b, o, r, cs, hA, hb, hr, _, rfl, hc⟩ := h.at_ hk
  exact ⟨b, o, r, hA, hb, hr, hc 0 _ rfl, hc 1 _ rfl, hc 2 _ rfl, hc 3 _ rfl, hc 4 _ rfl, hc 5 _ rfl, hc 6 _ rfl⟩

def maxRev (l : List Rec) : Int := l.foldl (fun n r => if n < r.rev then r.rev else n) 0
theorem maxRev_take {l : List Rec} {k : Nat} {r : Rec} (h : l[k]? = some r) : maxRev (l.take (k + 1)) = if maxRev (l.take k) < r.rev then r.rev else maxRev (l.take k) := by
  rw [List.take_add_one, h]
  simp [maxRev]
  rfl
def RevOk (l : List Rec) : Prop := ∀ r ∈ l, 1 ≤ r.rev ∧ r.rev ≤ 1000000
theorem maxRev_bd (l : List Rec) (hr : RevOk l) : 0 ≤ maxRev l ∧ maxRev l ≤ 1000000 := by
  have : ∀ (l : List Rec) (n : Int), RevOk l → 0 ≤ n → n ≤ 1000000 → 0 ≤ l.foldl (fun n r => if n < r.rev then r.rev else n) n ∧ l.foldl (fun n r => if n < r.rev then r.rev else n) n ≤ 1000000 := by
    intro l
    induction l with
    | nil => intro n _ h1 h2; exact ⟨h1, h2⟩
    | cons a l ih =>
      intro n h h1 h2
      have := h a (by simp)
      simp only [List.foldl_cons]
      exact ih _ (fun r hr => h r (by simp [hr])) (by split <;> omega) (by split <;> omega)
  exact this l 0 hr (by omega) (by omega)
theorem RevOk.take {l : List Rec} (h : RevOk l) (k : Nat) : RevOk (l.take k) := fun r hr => h r (List.mem_of_mem_take hr)

set_option maxHeartbeats 400000 in
theorem next_any (v : Value) (l : List Rec) (w : World) (hs : Sl 7 RecR w w.heap.size v l) (hl : l.length ≤ 1000000) (hr : RevOk l) :
    Calls Try.prog 11 #[v] w fun e w' => e = .returned (.int .i64 (maxRev l + 1)) ∧ Below w.heap.size w w' := by
  obtain ⟨A, cap, rfl, hc, hs⟩ := hs
  have HR := Lib.hid hr
  clear hr
  go_enter Try.func11, Try.ntmps11
  go_wp2
  go_loopw [3, 8] (fun n i wr => ∃ k : Nat, k ≤ l.length ∧ i = .int .i64 k ∧ n = .int .i64 (maxRev (l.take k)) ∧ Below w.heap.size w wr) (fun _ i _ => l.length - (intOf i).toNat)
  case atStart => exact ⟨0, by omega, rfl, rfl, Below.refl _ _⟩
  case round =>
    obtain ⟨k, hk, rfl, rfl, hB⟩ := hrel
    have hm := maxRev_bd _ (HR.out.take k)
    by_cases hlt : k < l.length
    · obtain ⟨b, o, x, rfl, hb, hg, c0, c1, c2, c3, c4, c5, c6⟩ := recs_at (hs.below hB) hlt
      have HG := Lib.hid hg
      clear hg hs
      go_wp2
      go_roundw
      case rel => exact ⟨k + 1, by omega, by go_num, by rw [maxRev_take HG.out], hB.alloc hB.size _⟩
      case measure => simp [intOf]; omega
    · go_wp2
      go_ret
      have : k = l.length := by omega
      subst this
      exact ⟨ret_int (by rw [List.take_length]), hB⟩

def refNext (l : List Rec) : Int := l.foldl (fun n r => if n ≤ r.rev then r.rev + 1 else n) 1
theorem refNext_take {l : List Rec} {k : Nat} {r : Rec} (h : l[k]? = some r) : refNext (l.take (k + 1)) = if refNext (l.take k) ≤ r.rev then r.rev + 1 else refNext (l.take k) := by
  rw [List.take_add_one, h]
  simp [refNext]
  rfl
theorem refNext_eq (l : List Rec) : refNext l = maxRev l + 1 := by
  have : ∀ (l : List Rec) (n : Int), l.foldl (fun n r => if n ≤ r.rev then r.rev + 1 else n) (n + 1) = l.foldl (fun n r => if n < r.rev then r.rev else n) n + 1 := by
    intro l
    induction l with
    | nil => intro n; rfl
    | cons a l ih =>
      intro n
      simp only [List.foldl_cons]
      rw [← ih]
      congr 1
      split <;> split <;> omega
  exact this l 0

set_option maxHeartbeats 400000 in
theorem refNext_any (v : Value) (l : List Rec) (w : World) (hs : Sl 7 RecR w w.heap.size v l) (hl : l.length ≤ 1000000) (hr : RevOk l) :
    Calls Try.prog 15 #[v] w fun e w' => e = .returned (.int .i64 (maxRev l + 1)) ∧ w' = w := by
  obtain ⟨A, cap, rfl, hc, hs⟩ := hs
  have HR := Lib.hid hr
  clear hr
  go_enter Try.func15, Try.ntmps15
  go_wp2
  go_loop [3, 4] (fun n i => ∃ k : Nat, k ≤ l.length ∧ i = .int .i64 k ∧ n = .int .i64 (refNext (l.take k))) (fun _ i => l.length - (intOf i).toNat)
  case atStart => exact ⟨0, by omega, rfl, rfl⟩
  case round =>
    obtain ⟨k, hk, rfl, rfl⟩ := hrel
    have hm := maxRev_bd _ (HR.out.take k)
    rw [← Int.sub_eq_iff_eq_add.2 (refNext_eq (l.take k))] at hm
    by_cases hlt : k < l.length
    · obtain ⟨b, o, x, rfl, hb, hg, c0, c1, c2, c3, c4, c5, c6⟩ := recs_at hs hlt
      have hx := HR.out x (List.mem_of_getElem? hg)
      have HG := Lib.hid hg
      clear hg hs c0 c2 c3 c4 c5 c6
      by_cases ht : refNext (l.take k) ≤ x.rev
      · go_wp2
        go_round
        case rel => exact ⟨k + 1, by omega, by go_num, by rw [refNext_take HG.out, if_pos ht]⟩
        case measure => simp [intOf]; omega
      · go_wp2
        go_round
        case rel => exact ⟨k + 1, by omega, by go_num, by rw [refNext_take HG.out, if_neg ht]⟩
        case measure => simp [intOf]; omega
    · go_wp2
      go_ret
      have : k = l.length := by omega
      subst this
      exact ⟨ret_int (by rw [List.take_length, refNext_eq]), rfl⟩

theorem Rec.one (r : Rec) : ∀ u ∈ (#[.string (r).rel, .int .i64 (r).rev, .int .i64 (r).st, .int .i64 (r).cmd, .string (r).ch, .string (r).va, .string (r).ma] : Array Value).toList, u.oneCell' = true := by simp [Value.oneCell']
theorem Rec.one0 : ∀ u ∈ (#[.string ⟨#[]⟩, .int .i64 0, .int .i64 0, .int .i64 0, .string ⟨#[]⟩, .string ⟨#[]⟩, .string ⟨#[]⟩] : Array Value).toList, u.oneCell' = true := by simp [Value.oneCell']

def IntR (cs : List Value) (n : Int) : Prop := cs = [.int .i64 n]
theorem ints_at {w : World} {B : Nat} {A : Option Addr} {l : List Int} (h : SlAt 1 IntR w B A l) {k : Nat} (hk : k < l.length) :
    ∃ b o n, A = some ⟨b, o, none⟩ ∧ b < B ∧ l[k]? = some n ∧ w.cell? ⟨b, o + k, none⟩ = some (.int .i64 n) := by
  obtain ⟨b, o, r, cs, hA, hb, hr, _, rfl, hc⟩ := h.at_ hk
  exact ⟨b, o, r, hA, hb, hr, by have := hc 0 _ rfl; rwa [Nat.mul_one] at this⟩

def idx (l : List Int) (x : Int) : Int := match l.findIdx? (x == ·) with | some i => i | none => -1
theorem idx_nonneg (l : List Int) (x : Int) : decide (0 ≤ idx l x) = l.contains x := by
  unfold idx
  cases h : l.findIdx? (x == ·) with
  | none =>
    simp only [List.findIdx?_eq_none_iff] at h
    symm
    simp
    intro hm
    have := h x hm
    simp at this
  | some i =>
    obtain ⟨hi, hx, _⟩ := List.findIdx?_eq_some_iff_getElem.1 h
    symm
    simp at hx
    simp
    exact hx ▸ List.getElem_mem hi
theorem idx_at {l : List Int} {x y : Int} {k : Nat} (h : ∀ j y, j < k → l[j]? = some y → (x == y) = false) (hk : l[k]? = some y) (e : (x == y) = true) : idx l x = k := by
  unfold idx
  have hlt := (List.getElem?_eq_some_iff.1 hk).1
  have : l.findIdx? (x == ·) = some k := List.findIdx?_eq_some_iff_getElem.2 ⟨hlt, by rw [(List.getElem?_eq_some_iff.1 hk).2]; exact e, fun j hj => by
    have := h j _ hj (List.getElem?_eq_getElem (by omega))
    simp at this ⊢
    exact this⟩
  rw [this]
theorem idx_none {l : List Int} {x : Int} (h : ∀ j y, j < l.length → l[j]? = some y → (x == y) = false) : idx l x = -1 := by
  unfold idx
  have : l.findIdx? (x == ·) = none := List.findIdx?_eq_none_iff.2 fun y hy => by
    obtain ⟨j, hj, rfl⟩ := List.getElem_of_mem hy
    exact h j _ hj (List.getElem?_eq_getElem hj)
  rw [this]

set_option maxHeartbeats 400000 in
theorem index_any (v : Value) (l : List Int) (x : Int) (w : World) (hs : Sl 1 IntR w w.heap.size v l) (hl : l.length ≤ 1000000000000) :
    Calls Try.prog 48 #[v, .int .i64 x] w fun e w' => e = .returned (.int .i64 (idx l x)) ∧ w' = w := by
  obtain ⟨A, cap, rfl, hc, hs⟩ := hs
  go_enter Try.func48, Try.ntmps48
  go_wp2
  go_loop [8] (fun i => ∃ k : Nat, k ≤ l.length ∧ i = .int .i64 k ∧ Hid (∀ j y, j < k → l[j]? = some y → (x == y) = false)) (fun i => l.length - (intOf i).toNat)
  case atStart => exact ⟨0, by omega, rfl, Lib.hid (fun j y hj => by omega)⟩
  case round =>
    obtain ⟨k, hk, rfl, hno⟩ := hrel
    by_cases hlt : k < l.length
    · obtain ⟨b, o, y, rfl, hb, hg, c0⟩ := ints_at hs hlt
      have HG := Lib.hid hg
      clear hg hs
      by_cases ht : (x == y) = true
      · go_wp2
        go_ret
        exact ⟨ret_int (idx_at hno.out HG.out ht).symm, rfl⟩
      · have ht' : (x == y) = false := by simpa using ht
        clear ht
        go_wp2
        go_round
        case rel => exact ⟨k + 1, by omega, by go_num, Lib.hid (fun j z hj hz => by
          rcases Nat.lt_or_ge j k with h1 | h1
          · exact hno.out j z h1 hz
          · obtain rfl : j = k := by omega
            have := HG.out.symm.trans hz
            injection this with this
            subst this
            exact ht')⟩
        case measure => simp [intOf]; omega
    · go_wp2
      go_ret
      have : k = l.length := by omega
      subst this
      exact ⟨ret_int (idx_none hno.out).symm, rfl⟩

theorem ret_bool {a b : Bool} (h : a = b) : Ending.returned (.bool a) = .returned (.bool b) := by rw [h]
theorem containsInt_any (v : Value) (l : List Int) (x : Int) (w : World) (hs : Sl 1 IntR w w.heap.size v l) (hl : l.length ≤ 1000000000000) :
    Calls Try.prog 33 #[v, .int .i64 x] w fun e w' => e = .returned (.bool (l.contains x)) ∧ w' = w := by
  have hs' := hs
  obtain ⟨A, cap, rfl, hc, hs⟩ := hs
  go_enter Try.func33, Try.ntmps33
  go_wp2_with (go_at_call 48; refine (index_any _ l x _ hs' hl).mono ?_; rintro e w' ⟨rfl, rfl⟩)
  go_ret
  exact ⟨ret_bool (idx_nonneg l x), rfl⟩

def Rec.zero : Rec := ⟨⟨#[]⟩, 0, 0, 0, ⟨#[]⟩, ⟨#[]⟩, ⟨#[]⟩⟩
/-- the newest revision that has one of some states -/
def withS (l : List Rec) (states : List Int) : Option Rec := l.reverse.find? fun r => states.contains r.st
theorem withS_hit {l : List Rec} {states : List Int} {k : Nat} {r : Rec} (h : l[k]? = some r) (c : states.contains r.st = true) : withS (l.take (k + 1)) states = some r := by
  rw [List.take_add_one, h]
  simp [withS, c] at c ⊢
  simp [c]
theorem withS_miss {l : List Rec} {states : List Int} {k : Nat} {r : Rec} (h : l[k]? = some r) (c : states.contains r.st = false) : withS (l.take (k + 1)) states = withS (l.take k) states := by
  rw [List.take_add_one, h]
  simp [withS, c] at c ⊢
  simp [c]

set_option maxHeartbeats 1000000 in
theorem with_any (v s : Value) (l : List Rec) (states : List Int) (w : World) (hs : Sl 7 RecR w w.heap.size v l) (ht : Sl 1 IntR w w.heap.size s states) (hl : l.length ≤ 1000000) (hl2 : states.length ≤ 1000000000000) :
    Calls Try.prog 18 #[v, s] w fun e w' =>
      e = .returned (.tuple #[.agg #[.string ((withS l states).getD Rec.zero).rel, .int .i64 ((withS l states).getD Rec.zero).rev, .int .i64 ((withS l states).getD Rec.zero).st, .int .i64 ((withS l states).getD Rec.zero).cmd, .string ((withS l states).getD Rec.zero).ch, .string ((withS l states).getD Rec.zero).va, .string ((withS l states).getD Rec.zero).ma], .bool (withS l states).isSome]) ∧ Below w.heap.size w w' := by
  obtain ⟨A, cap, rfl, hc, hs⟩ := hs
  have HT := Lib.hid ht
  obtain ⟨A2, cap2, rfl, hc2, ht⟩ := ht
  clear ht
  go_enter Try.func18, Try.ntmps18
  go_wp2
  have hs1 : SlAt 7 RecR (w.alloc (Obj.cells #[.string ⟨#[]⟩, .int .i64 0, .int .i64 0, .int .i64 0, .string ⟨#[]⟩, .string ⟨#[]⟩, .string ⟨#[]⟩] 29)) w.heap.size A l :=
    hs.below ((Below.refl _ _).alloc (Nat.le_refl _) _)
  go_loop [6] (fun i => ∃ k : Nat, k ≤ l.length ∧ i = .int .i64 ((k : Int) - 1) ∧ Hid (withS l states = withS (l.take k) states)) (fun i => (intOf i + 1).toNat)
  case atStart => exact ⟨l.length, by omega, rfl, Lib.hid (by rw [List.take_length])⟩
  case round =>
    obtain ⟨k, hk, rfl, hw⟩ := hrel
    rcases k with _ | k
    · go_wp2
      have h0 : withS l states = none := by rw [hw.out]; rfl
      exact bodyPost_ret (v := .tuple #[.agg #[.string ⟨#[]⟩, .int .i64 0, .int .i64 0, .int .i64 0, .string ⟨#[]⟩, .string ⟨#[]⟩, .string ⟨#[]⟩], .bool false]) (by simp [results, Try.results18, go_sem]) rfl
        ⟨by rw [h0]; rfl, (Below.refl _ _).alloc (Nat.le_refl _) _⟩
    · obtain ⟨b, o, x, rfl, hb, hg, c0, c1, c2, c3, c4, c5, c6⟩ := recs_at hs1 (show k < l.length by omega)
      have HG := Lib.hid hg
      clear hg hs hs1
      have e1 : ((k + 1 : Nat) : Int) - 1 = k := by omega
      have hn : ¬ b = w.heap.size := by omega
      rw [e1]
      have HT' := HT.out.below ((Below.refl _ _).alloc (Nat.le_refl _) (Obj.cells #[.string ⟨#[]⟩, .int .i64 0, .int .i64 0, .int .i64 0, .string ⟨#[]⟩, .string ⟨#[]⟩, .string ⟨#[]⟩] 29))
      have HT2 := Lib.hid (HT'.more (by simp : w.heap.size ≤ (w.alloc (Obj.cells #[.string ⟨#[]⟩, .int .i64 0, .int .i64 0, .int .i64 0, .string ⟨#[]⟩, .string ⟨#[]⟩, .string ⟨#[]⟩] 29)).heap.size))
      clear HT'
      rcases hcon : states.contains x.st with _ | _
      · have HC := Lib.hid hcon
        clear hcon
        go_wp2_with (go_at_call 33; refine (containsInt_any _ states x.st _ HT2.out hl2).mono ?_; rintro e w' ⟨rfl, rfl⟩; rw [HC.out])
        go_round
        case rel => exact ⟨k, by omega, by go_num, Lib.hid (by rw [hw.out, withS_miss HG.out HC.out])⟩
        case measure => simp [intOf]
      · have HC := Lib.hid hcon
        clear hcon
        go_wp2_with (go_at_call 33; refine (containsInt_any _ states x.st _ HT2.out hl2).mono ?_; rintro e w' ⟨rfl, rfl⟩; rw [HC.out])
        have h1 : withS l states = some x := by rw [hw.out, withS_hit HG.out HC.out]
        refine bodyPost_ret (v := .tuple #[.agg #[.string (x).rel, .int .i64 (x).rev, .int .i64 (x).st, .int .i64 (x).cmd, .string (x).ch, .string (x).va, .string (x).ma], .bool true]) (by simp [results, Try.results18, go_sem]) rfl ⟨by rw [h1]; rfl, (Below.refl _ _).alloc (Nat.le_refl _) _⟩
end Go.Proofs.Ytehmenkofhdmfaa
