/-
  yaml.emit, walked: any value, laid into a Builder that is handed on by pointer.
-/
import Derived.Test.YtpcddcfpbohogaaDoorEm3
namespace Go.Proofs.YtpcddcfpbohogaaDoor
set_option linter.unusedSimpArgs false
set_option linter.unusedVariables false
open Go.RowKit

theorem emem_sizeL {x : V} : ∀ {l : List V}, x ∈ l → x.size ≤ sizeL l
  | y :: l, h => by
    rw [sizeL]
    rcases List.mem_cons.1 h with rfl | h
    · omega
    · have := emem_sizeL h; omega
theorem emem_sizeM {p : ByteArray × V} : ∀ {l : List (ByteArray × V)}, p ∈ l → p.2.size ≤ sizeM l
  | (k, y) :: l, h => by
    rw [sizeM]
    rcases List.mem_cons.1 h with rfl | h
    · dsimp only; omega
    · have := emem_sizeM h; omega
theorem heap_old {w : World} {o : Obj} {k : Nat} (h : k < w.heap.size) : (w.alloc o).heap[k]? = w.heap[k]? := ((Below.refl w.heap.size w).alloc (Nat.le_refl _) o).block k h
theorem heap_at {w : World} {cs : Array Value} {T : TypeId} {k : Nat} (h : k = w.heap.size) : (w.alloc (.cells cs T)).heap[k]? = some (.cells cs T (0, 0)) := by subst h; exact heap_alloc_new w _
theorem IsB.lt {B b : Nat} {bs : List Value} {w : World} (h : IsB B b bs w) : b < w.heap.size := by
  rcases h with h | h
  · exact h.lt
  · exact h.lt
set_option maxHeartbeats 2000000 in
set_option maxRecDepth 100000 in
theorem emit_step {pr : V → ByteArray} {Gd : V → Prop} {n : Nat} (hE : EmitOk pr Gd n) (hP : ∀ v, Gd v → v.leaf = true → AC Tryd.prog 54 [.agg [.int .i64 (v).kind, .bool (v).b, .int .i64 (v).n, .str (v).s, .lst .any 6 (rowsV (v).l), .lst .any 7 (rowsM (v).m)]] (.str (pr v))) (hS : ∀ v, Gd v → (∀ x ∈ v.l, Gd x) ∧ ∀ p ∈ v.m, Gd p.2 ∧ p.1.size ≤ 1000000) : EmitOk pr Gd (n + 1) := by
  intro v k σ w u B b bs hv hG hk hh hg hu hI hBw hlen
  obtain ⟨A, C, c, d, rfl, hA, hC⟩ := val_open hu
  have T := fun x (hx : x.size ≤ n) (hGx : Gd x) => tail_of hE hP x k σ (hx := hx) (hG := hGx)
  have HT := Lib.hid T
  have hve := v.size_eq
  have hll := len_le_sizeL v.l
  have hlm := len_le_sizeM v.m
  have hmL : ∀ x ∈ v.l, x.size ≤ sizeL v.l := fun x hx => emem_sizeL hx
  have hmM : ∀ p ∈ v.m, p.2.size ≤ sizeM v.m := fun p hp => emem_sizeM hp
  obtain ⟨hGl, hGm⟩ := hS v hG
  rw [V.lay_eq] at hlen ⊢
  have hls : (layL wordB pr v.l k ++ layM wordB pr v.m k).size = (layL wordB pr v.l k).size + (layM wordB pr v.m k).size := ByteArray.size_append
  have HH := Lib.hid hh
  have HG := Lib.hid hg
  have HA := Lib.hid hA
  have HC := Lib.hid hC
  clear T hE hP hh hg hu hA hC hS
  have hk2 : k ≤ 1000000000000 := by omega
  obtain ⟨W0, hW0⟩ : ∃ W0, W0 = ((w.alloc (.cells #[.pointer (some ⟨b, 0, none⟩)] 83)).alloc (.cells #[.int .i64 (v).kind, .bool (v).b, .int .i64 (v).n, .string (v).s, .slice A (v).l.length c, .slice C (v).m.length d] 60)).alloc (.cells #[.int .i64 k] 3) := ⟨_, rfl⟩
  have hs0 : W0.heap.size = w.heap.size + 1 + 1 + 1 := by rw [hW0]; simp
  have hB0 : Below w.heap.size w W0 := by rw [hW0]; exact (((Below.refl _ _).alloc (Nat.le_refl _) _).alloc (by simp) _).alloc (by simp; omega) _
  have x3 : W0.heap[w.heap.size]? = some (.cells #[.pointer (some ⟨b, 0, none⟩)] 83 (0, 0)) := by
    rw [hW0, heap_old (by simp; omega), heap_old (by simp)]; exact heap_alloc_new w _
  have x4 : W0.heap[w.heap.size + 1]? = some (.cells #[.int .i64 (v).kind, .bool (v).b, .int .i64 (v).n, .string (v).s, .slice A (v).l.length c, .slice C (v).m.length d] 60 (0, 0)) := by
    rw [hW0, heap_old (by simp)]; exact heap_at (by simp)
  have x5 : W0.heap[w.heap.size + 1 + 1]? = some (.cells #[.int .i64 k] 3 (0, 0)) := by
    rw [hW0]; exact heap_at (by simp)
  have hI0 := isB_below hI hB0 (Nat.le_refl _)
  have hlb := hI.lt
  go_enter Tryd.func55, Tryd.ntmps55
  go_wp2_with fail
  rw [← hW0]
  have c5 : W0.cell? ⟨w.heap.size + 1 + 1, 0, none⟩ = some (.int .i64 k) := (Lib.cell_of_heap x5 0).trans rfl
  refine (repeat_any k hk2 W0).mono ?_
  rintro e w1 ⟨rfl, hr⟩
  clear hW0
  have y3 := (hr.block _ (by omega)).trans x3
  have y4 := (hr.block _ (by omega)).trans x4
  have y5 := (hr.block _ (by omega)).trans x5
  have hI1 := isB_below hI0 hr (Nat.le_refl _)
  have hB1 : Below B w w1 := (hB0.trans (hr.mono hB0.size)).mono hBw
  have hK1 : Lib.OthersKept 5 (some b) w w1 := (kept_of_below hB0).trans (kept_of_below hr)
  have hs1 := hr.size
  have d4 : w1.cell? ⟨w.heap.size + 1, 4, none⟩ = some (.slice A v.l.length c) := (Lib.cell_of_heap y4 4).trans rfl
  clear x3 x4 x5 hI0 hr hB0 c5 hI
  go_wp2_with fail
  go_loopw [18] (fun i wr => ∃ j : Nat, j ≤ v.l.length ∧ i = .int .i64 j ∧ IsB B b (bs ++ Lib.strCells (layL wordB pr (v.l.take j) k)) wr ∧ Below B w1 wr ∧ Lib.OthersKept 5 (some b) w1 wr) (fun i _ => v.l.length - (intOf i).toNat)
  case atStart => exact ⟨0, by omega, rfl, by rw [List.take_zero, layL]; simpa [Lib.strCells] using hI1, Below.refl _ _, Lib.OthersKept.refl _ _ _⟩
  case round =>
    obtain ⟨j, hj, rfl, hIr, hBr, hKr⟩ := hrel
    have z3 := kept_block hKr y3 (by decide) (by omega)
    have z4 := kept_block hKr y4 (by decide) (by omega)
    have z5 := kept_block hKr y5 (by decide) (by omega)
    have hsr := hBr.size
    have hBw2 : B ≤ wr.heap.size := by omega
    by_cases hlt : j < v.l.length
    · obtain ⟨x, hgx⟩ : ∃ x, v.l[j]? = some x := ⟨_, List.getElem?_eq_getElem hlt⟩
      obtain ⟨b0, o0, A1, A2, n1, n2, rfl, hx, c0, c1, c2, c3, c4, c5⟩ := elem_val (HH.out wr (hB1.trans hBr)) HA.out hgx
      have hxm := List.mem_of_getElem? hgx
      have hxs := hmL x hxm
      have hlt2 := layL_take (w := wordB) (pr := pr) hgx k
      have hle := layL_le (w := wordB) (pr := pr) v.l (j + 1) k
      have hsz : (layL wordB pr (v.l.take (j + 1)) k).size = (layL wordB pr (v.l.take j) k).size + ((padB k ++ ⟨#[45]⟩ : ByteArray).size + (x.tail wordB pr k).size) := by rw [hlt2, ByteArray.size_append, ByteArray.size_append]
      have e3 : wr.cell? ⟨w.heap.size, 0, none⟩ = some (.pointer (some ⟨b, 0, none⟩)) := (Lib.cell_of_heap z3 0).trans rfl
      have HX := Lib.hid hx
      have hz : w.heap.size < wr.heap.size := by omega
      have hps := padB_size k
      have hpz : (padB k ++ ⟨#[45]⟩ : ByteArray).size = k + 1 := by rw [ByteArray.size_append, hps]; rfl
      clear hx
      go_wp2_with fail
      have hBa : Below wr.heap.size wr (wr.alloc (Obj.cells #[.int .i64 (x).kind, .bool (x).b, .int .i64 (x).n, .string (x).s, .slice A1 (x).l.length n1, .slice A2 (x).m.length n2] 60)) := (Below.refl _ _).alloc (Nat.le_refl _) _
      have hxb : (wr.alloc (Obj.cells #[.int .i64 (x).kind, .bool (x).b, .int .i64 (x).n, .string (x).s, .slice A1 (x).l.length n1, .slice A2 (x).m.length n2] 60)).heap[wr.heap.size]? = some (.cells #[.int .i64 (x).kind, .bool (x).b, .int .i64 (x).n, .string (x).s, .slice A1 (x).l.length n1, .slice A2 (x).m.length n2] 60 (0, 0)) := heap_alloc_new wr _
      have hlr := hIr.lt
      have hl1 : (bs ++ Lib.strCells (layL wordB pr (v.l.take j) k)).length + (padB k ++ ⟨#[45]⟩ : ByteArray).size ≤ 140737488355328 := by rw [List.length_append, Lib.strCells_length]; omega
      have hq := Tryd.writeString_k B b (bs ++ Lib.strCells (layL wordB pr (v.l.take j) k)) (padB k ++ ⟨#[45]⟩) (wr.alloc (Obj.cells #[.int .i64 (x).kind, .bool (x).b, .int .i64 (x).n, .string (x).s, .slice A1 (x).l.length n1, .slice A2 (x).m.length n2] 60)) (isB_below hIr hBa (Nat.le_refl _)) hl1 (Nat.le_trans hBw2 hBa.size)
      refine hq.mono ?_
      clear hq
      rintro e w2 ⟨rfl, h2, b2, k2⟩
      have q := kept_block k2 hxb (by decide) (by omega)
      have q0 := Lib.cell_of_heap q 0
      have q1 := Lib.cell_of_heap q 1
      have q2 := Lib.cell_of_heap q 2
      have q3 := Lib.cell_of_heap q 3
      have q4 := Lib.cell_of_heap q 4
      have q5 := Lib.cell_of_heap q 5
      simp only [List.getElem?_toArray, List.getElem?_cons_zero, List.getElem?_cons_succ] at q0 q1 q2 q3 q4 q5
      have hBr2 : Below B wr w2 := (hBa.mono hBw2).trans b2
      have hKr2 : Lib.OthersKept 5 (some b) wr w2 := (kept_of_below hBa).trans k2
      go_wp2_with fail
      refine (HT.out x (by omega) (hGl x hxm) w2 _ B b w.heap.size (w.heap.size + 1 + 1) _ (by omega) (fun w' hb' => HH.out w' ((hB1.trans (hBr.trans hBr2)).trans hb')) (fun w' hb' => HG.out w' ((hB1.trans (hBr.trans hBr2)).trans hb')) HX.out (.inr h2) (Nat.le_trans hBw2 hBr2.size)
        (kept_block hKr2 z3 (by decide) (by omega)) (kept_block hKr2 z5 (by decide) (by omega)) (by omega) (by omega) (by rw [List.length_append, List.length_append, Lib.strCells_length, Lib.strCells_length]; omega)).mono ?_
      rintro e w3 ⟨rfl, h3, b3, k3⟩
      clear q q0 q1 q2 q3 q4 q5 h2 hxb z3 z4 z5 hIr e3 c0 c1 c2 c3 c4 c5
      go_wp2
      go_roundw
      case rel => exact ⟨j + 1, by omega, by go_num, by rw [hlt2, strCells_app, strCells_app, ← List.append_assoc, ← List.append_assoc]; exact h3, hBr.trans (hBr2.trans b3), hKr.trans (hKr2.trans k3)⟩
      case measure => simp [intOf]; omega
    · have hj' : j = v.l.length := by omega
      subst hj'
      rw [List.take_length] at hIr
      obtain ⟨wo, rfl⟩ : ∃ wo : World, wo = wr := ⟨_, rfl⟩
      have d5 : wo.cell? ⟨w.heap.size + 1, 5, none⟩ = some (.slice C v.m.length d) := (Lib.cell_of_heap z4 5).trans rfl
      clear y3 y4 y5 d4 hI1
      go_wp2
      go_loopw [33] (fun i wr => ∃ j : Nat, j ≤ v.m.length ∧ i = .int .i64 j ∧ IsB B b (bs ++ Lib.strCells (layL wordB pr v.l k) ++ Lib.strCells (layM wordB pr (v.m.take j) k)) wr ∧ Below B wo wr ∧ Lib.OthersKept 5 (some b) wo wr) (fun i _ => v.m.length - (intOf i).toNat)
      case atStart => exact ⟨0, by omega, rfl, by rw [List.take_zero, layM]; simpa [Lib.strCells] using hIr, Below.refl _ _, Lib.OthersKept.refl _ _ _⟩
      case round =>
        obtain ⟨j, hj, rfl, hIs, hBs, hKs⟩ := hrel
        have y3 := kept_block hKs z3 (by decide) (by omega)
        have y5 := kept_block hKs z5 (by decide) (by omega)
        have hss := hBs.size
        have hBw3 : B ≤ wr.heap.size := by omega
        have hBo : Below B w wr := (hB1.trans hBr).trans hBs
        by_cases hlt : j < v.m.length
        · obtain ⟨⟨y, x⟩, hgx⟩ : ∃ x, v.m[j]? = some x := ⟨_, List.getElem?_eq_getElem hlt⟩
          obtain ⟨b0, o0, A1, A2, n1, n2, rfl, hx, cy, c0, c1, c2, c3, c4, c5⟩ := elem_pair (HH.out wr hBo) HC.out hgx
          have hxm := List.mem_of_getElem? hgx
          have hxs := hmM _ hxm
          have hxG := hGm _ hxm
          dsimp only at hxs hxG
          have hlt2 := layM_take (w := wordB) (pr := pr) hgx k
          have hle := layM_le (w := wordB) (pr := pr) v.m (j + 1) k
          have hsz : (layM wordB pr (v.m.take (j + 1)) k).size = (layM wordB pr (v.m.take j) k).size + ((padB k ++ wordB y ++ ⟨#[58]⟩ : ByteArray).size + (x.tail wordB pr k).size) := by rw [hlt2, ByteArray.size_append, ByteArray.size_append]
          have HX := Lib.hid hx
          have hz : w.heap.size < wr.heap.size := by omega
          have hps := padB_size k
          have hwy := wordB_size y
          have hpz1 : (padB k ++ wordB y : ByteArray).size = k + (wordB y).size := by rw [ByteArray.size_append, hps]
          have hpz : (padB k ++ wordB y ++ ⟨#[58]⟩ : ByteArray).size = k + (wordB y).size + 1 := by rw [ByteArray.size_append, hpz1]; rfl
          have hys := hxG.2
          have hBa : Below wr.heap.size wr (wr.alloc (Obj.cells #[.string y, .int .i64 x.kind, .bool x.b, .int .i64 x.n, .string x.s, .slice A1 x.l.length n1, .slice A2 x.m.length n2] 73)).drew := ((Below.refl _ _).alloc (Nat.le_refl _) _).drew
          have hxb : (wr.alloc (Obj.cells #[.string y, .int .i64 x.kind, .bool x.b, .int .i64 x.n, .string x.s, .slice A1 x.l.length n1, .slice A2 x.m.length n2] 73)).drew.heap[wr.heap.size]? = some (.cells #[.string y, .int .i64 x.kind, .bool x.b, .int .i64 x.n, .string x.s, .slice A1 x.l.length n1, .slice A2 x.m.length n2] 73 (0, 0)) := heap_alloc_new wr _
          have hlr := hIs.lt
          have hl1 : (bs ++ Lib.strCells (layL wordB pr v.l k) ++ Lib.strCells (layM wordB pr (v.m.take j) k)).length + (padB k ++ wordB y ++ ⟨#[58]⟩ : ByteArray).size ≤ 140737488355328 := by rw [List.length_append, List.length_append, Lib.strCells_length, Lib.strCells_length]; omega
          have g3 := (hBa.block _ hz).trans y3
          have f0 : (wr.alloc (Obj.cells #[.string y, .int .i64 x.kind, .bool x.b, .int .i64 x.n, .string x.s, .slice A1 x.l.length n1, .slice A2 x.m.length n2] 73)).drew.cell? ⟨w.heap.size, 0, none⟩ = some (.pointer (some ⟨b, 0, none⟩)) := (Lib.cell_of_heap g3 0).trans rfl
          have hIa := isB_below hIs hBa (Nat.le_refl _)
          have hsa := hBa.size
          have hsb : wr.heap.size < (wr.alloc (Obj.cells #[.string y, .int .i64 x.kind, .bool x.b, .int .i64 x.n, .string x.s, .slice A1 x.l.length n1, .slice A2 x.m.length n2] 73)).drew.heap.size := by show wr.heap.size < (wr.alloc _).heap.size; simp
          have HG0 := Lib.hid (HG.out _ (hBo.trans (hBa.mono hBw3)))
          have hGw : ∀ w2 : World, Below (wr.alloc (Obj.cells #[.string y, .int .i64 x.kind, .bool x.b, .int .i64 x.n, .string x.s, .slice A1 x.l.length n1, .slice A2 x.m.length n2] 73)).drew.heap.size (wr.alloc (Obj.cells #[.string y, .int .i64 x.kind, .bool x.b, .int .i64 x.n, .string x.s, .slice A1 x.l.length n1, .slice A2 x.m.length n2] 73)).drew w2 → GW w2 := fun w2 h2 => HG.out w2 ((hBo.trans (hBa.mono hBw3)).trans (h2.mono (Nat.le_trans hBw3 hsa)))
          have HGw := Lib.hid hGw
          clear hx hGw
          go_wp2_with fail
          go_region_with (first | (go_at_call 34; refine (str_any y _ HG0.out).mono ?_; rintro e w2 ⟨⟨A3, C3, c3', d3, rfl⟩, hb2⟩; have f2 := (hb2.cell (p := ⟨w.heap.size, 0, none⟩) (Nat.lt_of_lt_of_le hz hsa)).trans f0; have hs2 := hb2.size) | (go_at_call 54; refine (print_any y hys A3 C3 c3' d3 _ (HGw.out _ hb2)).mono ?_; rintro e w3 ⟨rfl, hb3⟩; have f3 := (hb3.cell (p := ⟨w.heap.size, 0, none⟩) (Nat.lt_of_lt_of_le (Nat.lt_of_lt_of_le hz hsa) hs2)).trans f2) | (go_at_call 78; have hq := Tryd.writeString_k B b (bs ++ Lib.strCells (layL wordB pr v.l k) ++ Lib.strCells (layM wordB pr (v.m.take j) k)) (padB k ++ wordB y ++ ⟨#[58]⟩) w3 (isB_below (isB_below hIa hb2 (Nat.le_refl _)) hb3 (Nat.le_refl _)) hl1 (Nat.le_trans (Nat.le_trans (Nat.le_trans hBw3 hsa) hs2) hb3.size); refine hq.mono ?_; clear hq; rintro e w4 ⟨rfl, h4, b4, k4⟩) | fail)
          all_goals
            have hBq : Below B wr w4 := ((hBa.mono hBw3).trans (hb2.mono (Nat.le_trans hBw3 hsa))).trans ((hb3.mono (Nat.le_trans (Nat.le_trans hBw3 hsa) hs2)).trans b4)
            have hKq : Lib.OthersKept 5 (some b) wr w4 := (kept_of_below hBa).trans ((kept_of_below hb2).trans ((kept_of_below hb3).trans k4))
            have q := kept_block k4 ((hb3.block _ (Nat.lt_of_lt_of_le hsb hs2)).trans ((hb2.block _ hsb).trans hxb)) (by decide) (by omega)
            have q1 := Lib.cell_of_heap q 1
            have q2 := Lib.cell_of_heap q 2
            have q3 := Lib.cell_of_heap q 3
            have q4 := Lib.cell_of_heap q 4
            have q5 := Lib.cell_of_heap q 5
            have q6 := Lib.cell_of_heap q 6
            simp only [List.getElem?_toArray, List.getElem?_cons_zero, List.getElem?_cons_succ] at q1 q2 q3 q4 q5 q6
            have t3 := kept_block hKq y3 (by decide) (by omega)
            have t5 := kept_block hKq y5 (by decide) (by omega)
            clear q hxb f0 f2 f3 g3 cy c0 c1 c2 c3 c4 c5 hIa hIs y3 y5 hb2 hb3 k4 b4 HG0 HGw
            go_wp2_with fail
            refine (HT.out x (by omega) hxG.1 w4 _ B b w.heap.size (w.heap.size + 1 + 1) _ (by omega) (fun w' hb' => HH.out w' ((hBo.trans hBq).trans hb')) (fun w' hb' => HG.out w' ((hBo.trans hBq).trans hb')) HX.out (.inr h4) (Nat.le_trans hBw3 hBq.size)
              t3 t5 (by omega) (by omega) (by rw [List.length_append, List.length_append, List.length_append, Lib.strCells_length, Lib.strCells_length, Lib.strCells_length]; omega)).mono ?_
            rintro e w5 ⟨rfl, h5, b5, k5⟩
            clear q1 q2 q3 q4 q5 q6 h4 t3 t5
            go_wp2
            go_roundw
            case rel => exact ⟨j + 1, by omega, by go_num, by rw [hlt2, strCells_app, strCells_app, ← List.append_assoc, ← List.append_assoc]; exact h5, hBs.trans (hBq.trans b5), hKs.trans (hKq.trans k5)⟩
            case measure => simp [intOf]; omega
        · have hj' : j = v.m.length := by omega
          subst hj'
          rw [List.take_length] at hIs
          clear y3 y5 z3 z4 z5 d5
          go_wp2
          refine bodyPost_ret (results_none rfl _ _ _) rfl ?_
          exact ⟨rfl, by rw [strCells_app, ← List.append_assoc]; exact hIs, hBo, hK1.trans (hKr.trans hKs)⟩
theorem emit_any {pr : V → ByteArray} {Gd : V → Prop} (hP : ∀ v, Gd v → v.leaf = true → AC Tryd.prog 54 [.agg [.int .i64 (v).kind, .bool (v).b, .int .i64 (v).n, .str (v).s, .lst .any 6 (rowsV (v).l), .lst .any 7 (rowsM (v).m)]] (.str (pr v))) (hS : ∀ v, Gd v → (∀ x ∈ v.l, Gd x) ∧ ∀ p ∈ v.m, Gd p.2 ∧ p.1.size ≤ 1000000) : ∀ n, EmitOk pr Gd n
  | 0 => fun v k σ w u B b bs hv => by have := v.size_pos; omega
  | n + 1 => emit_step (emit_any hP hS n) hP hS
end Go.Proofs.YtpcddcfpbohogaaDoor
