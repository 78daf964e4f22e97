/-
  record.Owner of an ID that record.ID tells, record.Right of the example, walked.
-/
import Derived.Test.YtgcodocajgdmcaaGreatDoorOw1
namespace Go.Proofs.YtgcodocajgdmcaaGreatDoor
set_option linter.unusedSimpArgs false
set_option linter.unusedVariables false
open Go.RowKit

theorem heldID : Tryz.prog.stoodInHeld 23 = false := by kernel_rfl
theorem guardID : Tryz.prog.eqGuardType Tryz.prog.depth 23 = false := by kernel_rfl
theorem tl_iff (a b : ByteArray) : a.toList = b.toList ↔ a = b := ⟨LastIndex.eq_of_toList, fun h => by rw [h]⟩
theorem eqID_any (neg : Bool) (a b c d e f : ByteArray) : EqRun Tryz.prog neg 23 [.string a, .string b, .string c] [.string d, .string e, .string f] (eqCells [.str a, .str b, .str c] [.str d, .str e, .str f]) := by
  intro w x y
  cases neg
  · constructor
    · simp [go_sem, eqGuard, eqOp, guardID]
    · simp [go_sem, eqOp, heldID, eqCells, tl_iff]
      by_cases h1 : a = d <;> by_cases h2 : b = e <;> by_cases h3 : c = f <;> simp [h1, h2, h3]
  · constructor
    · simp [go_sem, eqGuard, eqOp, guardID]
    · simp [go_sem, eqOp, heldID, eqCells, tl_iff]
      by_cases h1 : a = d <;> by_cases h2 : b = e <;> by_cases h3 : c = f <;> simp [h1, h2, h3]
theorem nilErr (neg : Bool) : NilRun Tryz.prog neg 76 .nilIface .nilIface true := by
  intro w x y hk
  have hg : (eqGuard (eqOp neg) 76 x y .nilIface .nilIface).run Tryz.prog w = .ok () w := by
    cases x <;> cases y <;> first | (cases hk; done) | (cases neg <;> simp [go_sem, eqGuard, eqOp])
  cases neg
  · exact ⟨hg, by simp [go_sem, eqOp]⟩
  · exact ⟨hg, by simp [go_sem, eqOp]⟩
theorem below_bytes (w : World) (e : TypeId) (s : ByteArray) : Below w.heap.size w (Lib.bytesWorld w e s) := by
  unfold Lib.bytesWorld
  exact Lib.below_freeze (((Below.refl _ _).drew).alloc (Nat.le_refl _) _) (Nat.le_refl _) _
theorem atoi_a (n : Nat) (hn : n ≤ 1000000) : AC Tryz.prog 36 [.str ⟨(Lib.decDigits n).toArray⟩] (.tup [.int .i64 n, .raw .nilIface]) := by
  refine ⟨by kernel_rfl, fun σ w vs hh hr hg => ?_⟩
  have hl : vs.length = 1 := hr.1
  obtain ⟨v1, rfl⟩ := List.length_eq_one_iff.1 hl
  have h1 : Rel1 σ v1 (.str ⟨(Lib.decDigits n).toArray⟩) := hr.2 0 v1 _ rfl rfl
  cases h1
  have hd := dec_len 6 n (by omega)
  refine (Tryz.strconv_Atoi ⟨(Lib.decDigits n).toArray⟩ n (by show (Lib.decDigits n).toArray.size ≤ 18; simp; omega) (by rw [List.toList_toArray]; exact atoi_dec n) w).mono ?_
  rintro e w' ⟨rfl, t, rfl⟩
  have hb := below_bytes w 5 t
  refine ⟨σ, _, rfl, Ext.refl _ _, hh.on hb, hb, ⟨[.int .i64 n, .nilIface], rfl, rfl, fun j v a hv ha => ?_⟩⟩
  rcases j with _ | _ | j <;> simp at hv ha
  · subst hv ha; exact .int _ _
  · subst hv ha; exact .raw _ rfl
theorem idB_list (a : ByteArray) (n : Nat) : (idB a n).data.toList = nameL a.data.toList n := by
  unfold idB nameL
  rw [ByteArray.data_append, ByteArray.data_append, Array.toList_append, Array.toList_append]
theorem idB_size (a : ByteArray) (n : Nat) : (idB a n).size = a.size + 2 + (Lib.decDigits n).length := by
  unfold idB
  rw [ByteArray.size_append, ByteArray.size_append]
  show a.size + 2 + (Lib.decDigits n).toArray.size = _
  simp
theorem last_a (a : ByteArray) (n : Nat) (ha : a.size ≤ 140737488355328) (hn : n ≤ 1000000) : AC Tryz.prog 35 [.str (idB a n), .str ⟨#[46, 118]⟩] (.int .i64 a.size) := by
  refine ⟨by kernel_rfl, fun σ w vs hh hr hg => ?_⟩
  have hl : vs.length = 2 := hr.1
  obtain ⟨v1, v2, rfl⟩ : ∃ a b, vs = [a, b] := by
    rcases vs with _ | ⟨a, _ | ⟨b, _ | ⟨d, l⟩⟩⟩ <;> simp at hl
    exact ⟨a, b, rfl⟩
  have h1 : Rel1 σ v1 (.str (idB a n)) := hr.2 0 v1 _ rfl rfl
  have h2 : Rel1 σ v2 (.str ⟨#[46, 118]⟩) := hr.2 1 v2 _ rfl rfl
  cases h1; cases h2
  have hd := dec_len 6 n (by omega)
  have hz := idB_size a n
  refine (Tryz.strings_LastIndex (idB a n) ⟨#[46, 118]⟩ (by omega) w).mono ?_
  rintro e w' ⟨rfl, rfl⟩
  rw [idB_list, show (ByteArray.mk #[46, 118]).data.toList = [46, 118] from rfl, nameL_last, show a.data.toList.length = a.size by simp]
  exact ⟨σ, _, rfl, Ext.refl _ _, hh, Below.refl _ _, .int _ _⟩
theorem idB_front (a : ByteArray) (n : Nat) : (idB a n).extract 0 a.size = a := by
  rw [Lib.extract_eq, idB_list]
  cases a with
  | mk d =>
    congr 1
    refine Array.toList_inj.1 ?_
    simp [nameL, ByteArray.size]
theorem idB_back (a : ByteArray) (n : Nat) : (idB a n).extract (a.size + 2) (idB a n).size = ⟨(Lib.decDigits n).toArray⟩ := by
  rw [Lib.extract_eq, idB_list]
  congr 1
  refine Array.toList_inj.1 ?_
  have e : nameL a.data.toList n = (a.data.toList ++ [46, 118]) ++ Lib.decDigits n := rfl
  have e2 : (a.data.toList ++ [46, 118]).length = a.size + 2 := by simp
  rw [e, ← e2, List.drop_left, idB_size]
  simp
theorem eqCells_same3 (a b c : ByteArray) : eqCells [.str a, .str b, .str c] [.str a, .str b, .str c] = true := by simp [eqCells]
theorem owner_a (a : ByteArray) (n : Nat) (ha : nameB a = true) (h1 : 1 ≤ n) (hn : n ≤ 1000000) : AC Tryz.prog 10 [.agg [.str hidB, .str defB, .str (idB a n)]] (.tup [.str a, .int .i64 n, .bool true]) := by
  have hz : a.size ≤ 48 := by
    simp only [nameB, Bool.and_eq_true, decide_eq_true_eq] at ha
    exact ha.2.2
  have hL := last_a a n (by omega) hn
  have hA := atoi_a n hn
  have hN := name_a a (by omega)
  have hI := id_a a n (by omega) hn
  rw [ha] at hN
  have hs := idB_size a n
  have hf := idB_front a n
  have hb2 := idB_back a n
  refine AC.enter Tryz.func10 a_record_Owner_ok a_record_Owner_cb (by rfl) fun E hE => ?_
  show AK _ _ _ [.c b_record_Owner] _ _
  rw [b_record_Owner]
  (repeat (first | apply AK.seq | apply AK.block | apply AK.blk | apply AK.skip | (refine AK.reg follows_any (rs := []) (by rfl) ?_ ?_; first | exact trivial | exact ⟨trivial, trivial⟩ | exact ⟨trivial, trivial, trivial⟩ | exact ⟨trivial, trivial, trivial, trivial⟩ | fail) | fail))
  refine AK.reg follows_any (rs := [.v (.int .i64 a.size)]) (by rfl) ?_ ?_
  · ((repeat' apply And.intro) <;> first | trivial | omega | (simp only [List.length_nil, List.length_cons]; omega) | (intro hgd; first | (rw [hgd]; rfl) | (refine ⟨?_, by repeat (first | exact trivial | refine ⟨hgd, ?_⟩)⟩; (repeat' apply And.intro) <;> first | trivial | omega | (intro h2; rw [hgd, h2]; rfl) | skip)) | skip)
  (repeat (first | apply AK.seq | apply AK.block | apply AK.blk | apply AK.skip | (refine AK.reg follows_any (rs := []) (by rfl) ?_ ?_; first | exact trivial | exact ⟨trivial, trivial⟩ | exact ⟨trivial, trivial, trivial⟩ | exact ⟨trivial, trivial, trivial, trivial⟩ | fail) | fail))
  refine AK.cond (by rfl) (fun hb => ?_) (fun hb => ?_)
  · exact absurd hb (by simp)
  have hw : IntKind.i64.wrap ((a.size : Int) + 2) = ((a.size + 2 : Nat) : Int) := by rw [wrap_in (by omega) (by omega)]; omega
  (repeat (first | apply AK.seq | apply AK.block | apply AK.blk | apply AK.skip | (refine AK.reg follows_any (rs := []) (by rfl) ?_ ?_; first | exact trivial | exact ⟨trivial, trivial⟩ | exact ⟨trivial, trivial, trivial⟩ | exact ⟨trivial, trivial, trivial, trivial⟩ | fail) | fail))
  refine AK.reg follows_any (rs := [.v (.tup [.int .i64 n, .raw .nilIface])]) (by rfl) ?_ ?_
  · ((repeat' apply And.intro) <;> first | trivial | omega | (simp only [List.length_nil, List.length_cons]; omega) | (intro hgd; first | (rw [hgd]; rfl) | (refine ⟨?_, by repeat (first | exact trivial | refine ⟨hgd, ?_⟩)⟩; (repeat' apply And.intro) <;> first | trivial | omega | (intro h2; rw [hgd, h2]; rfl) | skip)) | skip)
    rw [show (idB a n).extract (IntKind.i64.wrap ((a.size : Int) + 2)).toNat ((idB a n).size : Int).toNat = ⟨(Lib.decDigits n).toArray⟩ by rw [hw, Int.toNat_natCast, Int.toNat_natCast]; exact hb2]
    exact hA
  (repeat (first | apply AK.seq | apply AK.block | apply AK.blk | apply AK.skip | (refine AK.reg follows_any (rs := []) (by rfl) ?_ ?_; first | exact trivial | exact ⟨trivial, trivial⟩ | exact ⟨trivial, trivial, trivial⟩ | exact ⟨trivial, trivial, trivial, trivial⟩ | fail) | fail))
  refine AK.reg follows_any (rs := []) (by rfl) ?_ ?_
  · ((repeat' apply And.intro) <;> first | trivial | omega | (simp only [List.length_nil, List.length_cons]; omega) | (intro hgd; first | (rw [hgd]; rfl) | (refine ⟨?_, by repeat (first | exact trivial | refine ⟨hgd, ?_⟩)⟩; (repeat' apply And.intro) <;> first | trivial | omega | (intro h2; rw [hgd, h2]; rfl) | skip)) | skip)
  rw [show (idB a n).extract (0 : Int).toNat (a.size : Int).toNat = a by rw [Int.toNat_natCast]; exact hf]
  (repeat (first | apply AK.seq | apply AK.block | apply AK.blk | apply AK.skip | (refine AK.reg follows_any (rs := []) (by rfl) ?_ ?_; first | exact trivial | exact ⟨trivial, trivial⟩ | exact ⟨trivial, trivial, trivial⟩ | exact ⟨trivial, trivial, trivial, trivial⟩ | fail) | fail))
  refine AK.reg follows_any (rs := [.v (.bool true), .v (.agg [.str hidB, .str defB, .str (idB a n)])]) (by rfl) ?_ ?_
  · ((repeat' apply And.intro) <;> first | trivial | omega | (simp only [List.length_nil, List.length_cons]; omega) | (intro hgd; first | (rw [hgd]; rfl) | (refine ⟨?_, by repeat (first | exact trivial | refine ⟨hgd, ?_⟩)⟩; (repeat' apply And.intro) <;> first | trivial | omega | (intro h2; rw [hgd, h2]; rfl) | skip)) | skip)
    · exact nilErr true
    · exact eqID_any true _ _ _ _ _ _
  rw [eqCells_same3]
  refine AK.cond (by rfl) (fun hb => ?_) (fun hb => ?_)
  · exact absurd hb (by simp; omega)
  (repeat (first | apply AK.seq | apply AK.block | apply AK.blk | apply AK.skip | (refine AK.reg follows_any (rs := []) (by rfl) ?_ ?_; first | exact trivial | exact ⟨trivial, trivial⟩ | exact ⟨trivial, trivial, trivial⟩ | exact ⟨trivial, trivial, trivial, trivial⟩ | fail) | fail))
  refine AK.ret ⟨_, rfl, ?_⟩
  rfl
theorem text_nil : AC Tryz.prog 63 [.str ⟨#[]⟩] (.bool true) := by
  refine AC.enter Tryz.func63 a_tree_Text_ok a_tree_Text_cb (by rfl) fun E hE => ?_
  show AK _ _ _ [.c b_tree_Text] _ _
  rw [b_tree_Text]
  (repeat (first | apply AK.seq | apply AK.block | apply AK.blk | apply AK.skip | (refine AK.reg follows_any (rs := []) (by rfl) ?_ ?_; first | exact trivial | exact ⟨trivial, trivial⟩ | exact ⟨trivial, trivial, trivial⟩ | exact ⟨trivial, trivial, trivial, trivial⟩ | fail) | fail))
  refine AK.loopI (fun k : Nat => (frOf [(0, .str ⟨#[]⟩), (6, .int .i64 (0 : Nat)), (7, .int .i64 k)], ⟨boxOf [], fun _ => 0⟩)) (fun k => k = 0) (fun k => 0) 0 rfl (Weak.intro ⟨⟨_, rfl, .refl _⟩, ⟨_, rfl, .refl _⟩, ⟨_, rfl, .refl _⟩, trivial⟩ trivial rfl rfl) fun k hk => ?_
  subst hk
  (repeat (first | apply AK.seq | apply AK.block | apply AK.blk | apply AK.skip | (refine AK.reg follows_any (rs := []) (by rfl) ?_ ?_; first | exact trivial | exact ⟨trivial, trivial⟩ | exact ⟨trivial, trivial, trivial⟩ | exact ⟨trivial, trivial, trivial, trivial⟩ | fail) | fail))
  refine AK.cond (by rfl) (fun hb => ?_) (fun hb => ?_)
  · cases hb
  refine AK.exit rfl ?_
  (repeat (first | apply AK.seq | apply AK.block | apply AK.blk | apply AK.skip | (refine AK.reg follows_any (rs := []) (by rfl) ?_ ?_; first | exact trivial | exact ⟨trivial, trivial⟩ | exact ⟨trivial, trivial, trivial⟩ | exact ⟨trivial, trivial, trivial, trivial⟩ | fail) | fail))
  refine AK.ret ⟨_, rfl, ?_⟩
  rfl
def webB : ByteArray := ⟨#[119, 101, 98]⟩
theorem right_ex : AC Tryz.prog 24 [.agg [.str webB, .int .i64 1, .int .i64 1, .int .i64 1, .str ⟨#[]⟩, .str ⟨#[]⟩, .str ⟨#[]⟩]] (.bool true) := by
  have h1 := name_a webB (by decide)
  rw [show nameB webB = true by decide +kernel] at h1
  have h2 := text_nil
  refine AC.enter Tryz.func24 a_record_Right_ok a_record_Right_cb (by rfl) fun E hE => ?_
  show AK _ _ _ [.c b_record_Right] _ _
  rw [b_record_Right]
  (repeat (first | apply AK.seq | apply AK.block | apply AK.blk | apply AK.skip | (refine AK.reg follows_any (rs := []) (by rfl) ?_ ?_; first | exact trivial | exact ⟨trivial, trivial⟩ | exact ⟨trivial, trivial, trivial⟩ | exact ⟨trivial, trivial, trivial, trivial⟩ | fail) | fail))
  refine AK.reg follows_any (rs := [.v (.bool true), .v (.bool true), .v (.bool true), .v (.bool true)]) (by rfl) ?_ ?_
  · ((repeat' apply And.intro) <;> first | trivial | omega | (simp only [List.length_nil, List.length_cons]; omega) | (intro hgd; first | (rw [hgd]; rfl) | (refine ⟨?_, by repeat (first | exact trivial | refine ⟨hgd, ?_⟩)⟩; (repeat' apply And.intro) <;> first | trivial | omega | (intro h2; rw [hgd, h2]; rfl) | skip)) | skip)
  (repeat (first | apply AK.seq | apply AK.block | apply AK.blk | apply AK.skip | (refine AK.reg follows_any (rs := []) (by rfl) ?_ ?_; first | exact trivial | exact ⟨trivial, trivial⟩ | exact ⟨trivial, trivial, trivial⟩ | exact ⟨trivial, trivial, trivial, trivial⟩ | fail) | fail))
  refine AK.ret ⟨_, rfl, ?_⟩
  rfl
theorem awake_a : AC Tryz.prog 7 [] (.bool true) := by
  have h1 := id_a webB 3 (by decide) (by decide)
  rw [show idB webB 3 = ⟨#[119, 101, 98, 46, 118, 51]⟩ by decide +kernel] at h1
  have h2 := right_ex
  refine AC.enter Tryz.func7 a_law17_awake_ok a_law17_awake_cb (by rfl) fun E hE => ?_
  show AK _ _ _ [.c b_law17_awake] _ _
  rw [b_law17_awake]
  (repeat (first | apply AK.seq | apply AK.block | apply AK.blk | apply AK.skip | (refine AK.reg follows_any (rs := []) (by rfl) ?_ ?_; first | exact trivial | exact ⟨trivial, trivial⟩ | exact ⟨trivial, trivial, trivial⟩ | exact ⟨trivial, trivial, trivial, trivial⟩ | fail) | fail))
  refine AK.reg follows_any (rs := [.v (.agg [.str hidB, .str defB, .str ⟨#[119, 101, 98, 46, 118, 51]⟩]), .v (.bool true)]) (by rfl) ?_ ?_
  · ((repeat' apply And.intro) <;> first | trivial | omega | (simp only [List.length_nil, List.length_cons]; omega) | (intro hgd; first | (rw [hgd]; rfl) | (refine ⟨?_, by repeat (first | exact trivial | refine ⟨hgd, ?_⟩)⟩; (repeat' apply And.intro) <;> first | trivial | omega | (intro h2; rw [hgd, h2]; rfl) | skip)) | skip)
    exact eqID_any false _ _ _ _ _ _
  (repeat (first | apply AK.seq | apply AK.block | apply AK.blk | apply AK.skip | (refine AK.reg follows_any (rs := []) (by rfl) ?_ ?_; first | exact trivial | exact ⟨trivial, trivial⟩ | exact ⟨trivial, trivial, trivial⟩ | exact ⟨trivial, trivial, trivial, trivial⟩ | fail) | fail))
  refine AK.ret ⟨_, rfl, ?_⟩
  exact congrArg AV.bool (by decide +kernel)
end Go.Proofs.YtgcodocajgdmcaaGreatDoor
