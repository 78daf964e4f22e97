/-
  Files as one text (the Bundle's Pack): in another order they are one. Plain laws, no program in sight.
-/
import Derived.Test.YtpcddcfpbohogaaDoorTurn
namespace Go.Proofs.YtpcddcfpbohogaaDoor
set_option linter.unusedSimpArgs false
set_option linter.unusedVariables false
open Go.RowKit

def vTxt (s : ByteArray) : V := .mk 3 false 0 s [] []
/-- files laid into a map, one by one; what is wrong first -/
def packE (nameB : ByteArray → Bool) (eN : Int) : List (ByteArray × ByteArray) → List (ByteArray × V) → List (ByteArray × V) × Int
  | [], m => (m, 0)
  | (n, t) :: l, m => if nameB n = false then ([], eN) else if textB t = false then ([], 10) else if (mfind n m).isSome = true then ([], 13) else packE nameB eN l (minsert n (vTxt t) m)
def fPairs (l : List (ByteArray × ByteArray)) : List (ByteArray × V) := l.map fun p => (p.1, vTxt p.2)
theorem packE_bad {nameB : ByteArray → Bool} {eN : Int} (hN : eN ≠ 0) : ∀ (l : List (ByteArray × ByteArray)) (m : List (ByteArray × V)), Rises m →
    ((packE nameB eN l m).2 = 0 ↔ (∀ p ∈ l, nameB p.1 = true ∧ textB p.2 = true ∧ mfind p.1 m = none) ∧ (l.map Prod.fst).Nodup)
  | [], m, _ => by simp [packE]
  | (n, t) :: l, m, hr => by
    have ih := packE_bad (nameB := nameB) hN l (minsert n (vTxt t) m) (minsert_rises hr)
    rw [packE]
    by_cases h1 : nameB n = false
    · rw [if_pos h1]
      refine ⟨fun h => absurd h hN, fun h => ?_⟩
      have := (h.1 (n, t) (by simp)).1
      rw [h1] at this; cases this
    rw [if_neg h1]
    by_cases h2 : textB t = false
    · rw [if_pos h2]
      refine ⟨fun h => absurd h (by decide), fun h => ?_⟩
      have := (h.1 (n, t) (by simp)).2.1
      rw [h2] at this; cases this
    rw [if_neg h2]
    by_cases h3 : (mfind n m).isSome = true
    · rw [if_pos h3]
      refine ⟨fun h => absurd h (by decide), fun h => ?_⟩
      have := (h.1 (n, t) (by simp)).2.2
      rw [this] at h3; cases h3
    rw [if_neg h3, ih]
    have h1' : nameB n = true := by simpa using h1
    have h2' : textB t = true := by simpa using h2
    have h3' : mfind n m = none := by simpa using h3
    rw [List.map_cons, List.nodup_cons]
    refine ⟨fun ⟨a, b⟩ => ⟨fun p hp => ?_, fun hm => ?_, b⟩, fun ⟨a, b, c⟩ => ⟨fun p hp => ?_, c⟩⟩
    · rcases List.mem_cons.1 hp with rfl | hp
      · exact ⟨h1', h2', h3'⟩
      · obtain ⟨x1, x2, x3⟩ := a p hp
        rw [mfind_minsert hr] at x3
        refine ⟨x1, x2, ?_⟩
        split at x3
        · cases x3
        · exact x3
    · obtain ⟨q, hq, e⟩ := List.mem_map.1 hm
      have e : q.1 = n := e
      have := (a q hq).2.2
      rw [mfind_minsert hr, if_pos e] at this
      cases this
    · obtain ⟨x1, x2, x3⟩ := a p (List.mem_cons_of_mem _ hp)
      refine ⟨x1, x2, ?_⟩
      rw [mfind_minsert hr, if_neg]
      · exact x3
      · exact fun e => b (List.mem_map.2 ⟨p, hp, e⟩)
theorem packE_map {nameB : ByteArray → Bool} {eN : Int} (hN : eN ≠ 0) : ∀ (l : List (ByteArray × ByteArray)) (m : List (ByteArray × V)), (packE nameB eN l m).2 = 0 → (packE nameB eN l m).1 = (fPairs l).foldl (fun m p => minsert p.1 p.2 m) m
  | [], m, _ => rfl
  | (n, t) :: l, m, h => by
    rw [packE] at h ⊢
    split at h
    · exact absurd h hN
    · rename_i h1
      rw [if_neg h1]
      split at h
      · exact absurd h (by decide)
      · rename_i h2
        rw [if_neg h2]
        split at h
        · exact absurd h (by decide)
        · rename_i h3
          rw [if_neg h3, packE_map hN l _ h]
          rfl
/-- files as one text -/
def packP (nameB : ByteArray → Bool) (eN : Int) (emitP : List (ByteArray × V) → ByteArray) (l : List (ByteArray × ByteArray)) : ByteArray × Int :=
  if 32 < l.length then (⟨#[]⟩, 6) else if (packE nameB eN l []).2 ≠ 0 then (⟨#[]⟩, (packE nameB eN l []).2)
  else if 65536 < (emitP (packE nameB eN l []).1).size then (⟨#[]⟩, 6) else (emitP (packE nameB eN l []).1, 0)
theorem packP_perm {nameB : ByteArray → Bool} {eN : Int} (hN : eN ≠ 0) (emitP : List (ByteArray × V) → ByteArray) {l l' : List (ByteArray × ByteArray)} (hp : l.Perm l') :
    (packP nameB eN emitP l).1 = (packP nameB eN emitP l').1 ∧ ((packP nameB eN emitP l).2 = 0 ↔ (packP nameB eN emitP l').2 = 0) := by
  have hb := packE_bad (nameB := nameB) hN l [] List.Pairwise.nil
  have hb' := packE_bad (nameB := nameB) hN l' [] List.Pairwise.nil
  have hiff : (packE nameB eN l []).2 = 0 ↔ (packE nameB eN l' []).2 = 0 := by
    rw [hb, hb', (hp.map Prod.fst).nodup_iff]
    exact and_congr ⟨fun h p hm => h p (hp.mem_iff.2 hm), fun h p hm => h p (hp.mem_iff.1 hm)⟩ Iff.rfl
  unfold packP
  rw [hp.length_eq]
  by_cases h32 : 32 < l'.length
  · rw [if_pos h32, if_pos h32]; exact ⟨rfl, Iff.rfl⟩
  rw [if_neg h32, if_neg h32]
  by_cases h0 : (packE nameB eN l []).2 = 0
  · have h0' := hiff.1 h0
    have hnd : keysNd (fPairs l) := by
      have := (hb.1 h0).2
      rw [keysNd, fPairs, List.map_map]
      exact this
    have hm : (packE nameB eN l []).1 = (packE nameB eN l' []).1 := by
      rw [packE_map hN l [] h0, packE_map hN l' [] h0']
      exact mapOf_perm (hp.map _) hnd
    rw [if_neg (show ¬ (packE nameB eN l []).2 ≠ 0 from fun h => h h0), if_neg (show ¬ (packE nameB eN l' []).2 ≠ 0 from fun h => h h0'), hm]
    exact ⟨rfl, Iff.rfl⟩
  · have h0' : ¬ (packE nameB eN l' []).2 = 0 := fun h => h0 (hiff.2 h)
    rw [if_pos h0, if_pos h0']
    exact ⟨rfl, ⟨fun h => absurd h h0, fun h => absurd h h0'⟩⟩
end Go.Proofs.YtpcddcfpbohogaaDoor
