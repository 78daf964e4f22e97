/-
  The texts that the claim wants, one behind the other: part 35.
-/
import Derived.Test.YtdncaodccgfniaaDoorS34
set_option linter.unusedSimpArgs false
set_option linter.unusedVariables false
namespace Go.Proofs.YtdncaodccgfniaaDoor
open Go.RowKit
theorem failed_ans (fs : List Nat) (k : Nat) : ((failed idI emB fs k).create 0 (idI k) emB).1 = if k ∈ fs then 30 else 0 := by
 have hne := fun i j h => idI_ne i j h
 obtain ⟨h1, h2, h3, h4⟩ := failed_at (v := emB) (fs := fs) hne k
 have hn : (failed idI emB fs k).find (idI k) = none := creates_new (fun e he => by simp [Clu.new] at he) fun i hi => hne i k hi
 have hz : (0 : Int) ∈ (failed idI emB fs k).fails ↔ k ∈ fs := by
  rw [h4]
  exact ⟨fun h => by
   rcases h with ⟨n, hn, _, e⟩ | ⟨_, e⟩
   ·rwa [show k = n by omega]
   ·omega, fun h => .inl ⟨k, h, Nat.le_refl _, by omega⟩⟩
 rw [create_new emB hn]
 generalize failed idI emB fs k = c at *
 have hw : c.write.1 = if k ∈ fs then 30 else 0 := by
  unfold Clu.write
  rw [h1, h2, if_neg (by simp)]
  dsimp only
  by_cases hk : k ∈ fs
  ·rw [if_pos hk, if_pos (hz.2 hk)]
  ·rw [if_neg hk, if_neg (fun h => hk (hz.1 h))]
 by_cases hk : k ∈ fs
 ·rw [if_pos hk] at hw ⊢
  rw [hw]
  simp [hw]
 ·rw [if_neg hk] at hw ⊢
  rw [hw]
  simp
theorem failed_K {fs : List Nat} (hf : ∀ n ∈ fs, n < 40) (hl : fs.length ≤ 100) : ∀ k, k ≤ 60 → CluK (failed idI emB fs k) ∧ (failed idI emB fs k).has.length ≤ k ∧ (failed idI emB fs k).last ≤ k
 | 0, _ => ⟨⟨⟨.nil, (fun e he => by cases he), (by show (0 : Nat) ≤ _; omega)⟩, (fun e he => by cases he), (by show (0 : Int) ≤ 0 ∧ (0 : Int) ≤ _; omega), (by show (-1000 : Int) ≤ (-1 : Int) ∧ (-1 : Int) ≤ 1000; omega), (fun n hn => by
   rcases List.mem_append.1 (show n ∈ fs.map (fun n : Nat => (n : Int)) ++ [-1] from hn) with h | h
   ·obtain ⟨m, hm, rfl⟩ := List.mem_map.1 h
    have := hf m hm
    omega
   ·rw [List.mem_singleton.1 h]; omega), (by show (fs.map (fun n : Nat => (n : Int)) ++ [-1]).length ≤ _; simp; omega)⟩, Nat.le_refl _, (by show (0 : Int) ≤ 0; omega)⟩
 | k + 1, hk => by
  obtain ⟨h1, h2, h3⟩ := failed_K hf hl k (by omega)
  obtain ⟨k1, k2, k3⟩ := create_K h1 (by omega) (by omega) (idI k) (idI_size (by omega))
  exact ⟨k1, by have : (failed idI emB fs (k + 1)).has.length ≤ _ := k2; omega, by have : (failed idI emB fs (k + 1)).last ≤ _ := k3; omega⟩
theorem cluX_create {fs : List Nat} {k : Nat} (hf : ∀ n ∈ fs, n < 40) (hl : fs.length ≤ 100) (hk : k < 60) : MS Tryd.prog 8 (cluX 1000100 1900101 (failed idI emB fs k)) [.np 1000100 0, .agg [.str ⟨#[65]⟩, .str ⟨#[98]⟩, .str (nmI k)], (vA (emB))] (cluX 1000100 1900101 (failed idI emB fs (k + 1))) (.int .i64 (if k ∈ fs then 30 else 0)) := by
 have h := create_s (failed idI emB fs k) (failed_K hf hl k (by omega)).1 (key_at hk) (by rw [idI_at hk]; exact nm_ok ⟨k, hk⟩)
 rw [failed_ans] at h
 rw [idI_at hk] at h
 have e : ((failed idI emB fs k).create 0 ⟨⟨#[65]⟩, ⟨#[98]⟩, nmI k⟩ emB).2 = failed idI emB fs (k + 1) := by
  rw [← idI_at hk]
  rfl
 rw [e] at h
 exact h
def fsI (l : List Nat) : List Int := l.map fun n => ((n % 40 : Nat) : Int)
def badL (l : List Int) : List Int := l.foldl insB []
theorem badL_snoc (l : List Int) (n : Int) : badL (l ++ [n]) = insB (badL l) n := by unfold badL; rw [List.foldl_append]; rfl
theorem foldl_mem (l : List Int) : ∀ (d : List Int) (x : Int), x ∈ l.foldl insB d ↔ x ∈ d ∨ x ∈ l := by
 induction l with
 | nil => simp
 | cons n l ih =>
  intro d x
  rw [List.foldl_cons, ih, insB_mem, List.mem_cons, or_assoc]
theorem badL_mem {l : List Int} {x : Int} : x ∈ badL l ↔ x ∈ l := by
 unfold badL
 rw [foldl_mem]
 simp
theorem fsI_take {l : List Nat} {k : Nat} {n : Nat} (h : l[k]? = some n) : fsI (l.take (k + 1)) = fsI (l.take k) ++ [((n % 40 : Nat) : Int)] := by
 unfold fsI
 rw [List.take_add_one, h, List.map_append]
 rfl
theorem fsI_bound {l : List Nat} {x : Int} (h : x ∈ fsI l) : 0 ≤ x ∧ x ≤ 1000000 := by
 obtain ⟨n, _, rfl⟩ := List.mem_map.1 h
 omega
theorem fsI_len (l : List Nat) : (fsI l).length = l.length := List.length_map _
def fsN (l : List Nat) : List Nat := l.map (· % 40)
theorem fsN_map (l : List Nat) : (fsN l).map (fun n : Nat => (n : Int)) = fsI l := by
 unfold fsN fsI
 rw [List.map_map]
 rfl
theorem bad_fsN {l : List Nat} {k : Nat} : (k : Int) ∈ badL (fsI l) ↔ k ∈ fsN l := by
 rw [badL_mem, ← fsN_map, List.mem_map]
 exact ⟨fun ⟨n, hn, e⟩ => by rwa [show k = n by omega], fun h => ⟨k, h, rfl⟩⟩
end Go.Proofs.YtdncaodccgfniaaDoor
namespace Go.Proofs.YtdncaodccgfniaaDoor
open Go.RowKit Go.Maps Go.MapKept Go.ChangeMaps
abbrev cluB (c : Clu) : List (Nat × List AV × Bool) := [(1000100, [.np 1900101 0, .int .i64 c.last, .lst .any 1 (rowsJ c.fails), .int .i64 c.fuse, .bool c.down, npC], false), (1900101, [mcA (rowsE c.has)], false)]
theorem nm_wr : ∀ k : Fin 60, 0 ≤ IntKind.u8.wrap (IntKind.i64.wrap (97 + ((k.val : Nat) : Int).tmod 26)) ∧ IntKind.u8.wrap (IntKind.i64.wrap (97 + ((k.val : Nat) : Int).tmod 26)) < 256 ∧ 0 ≤ IntKind.u8.wrap (IntKind.i64.wrap (97 + IntKind.i64.wrap (((k.val : Nat) : Int).tdiv 26))) ∧ IntKind.u8.wrap (IntKind.i64.wrap (97 + IntKind.i64.wrap (((k.val : Nat) : Int).tdiv 26))) < 256 := by decide +kernel
theorem inc_le {st : St} {a b : Int} (h0 : 0 ≤ a) (h1 : a ≤ 1000000) (h : a + 1 = b) : AVle st (.int .i64 (IntKind.i64.wrap (a + 1))) (.int .i64 b) := by
 rw [wrap_in (by omega) (by omega), h]
 exact .refl _
end Go.Proofs.YtdncaodccgfniaaDoor
