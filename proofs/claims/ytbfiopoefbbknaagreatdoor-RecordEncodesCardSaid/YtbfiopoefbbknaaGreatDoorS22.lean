/-
  The texts that the claim wants, one behind the other: part 22.
-/
import Derived.Test.YtbfiopoefbbknaaGreatDoorS21
import Derived.Lib.Join
import Derived.Test.YtbfiopoefbbknaaGreatDoorChecked
import Derived.KernelRfl
import Derived.Shelf.Strings.Builder1
import Derived.Shelf.Strings.Builder2
import Derived.Shelf.Strings.OnBuilder
import Derived.Shelf.Strings.Trim
import Derived.Shelf.Small.Utf8
import Derived.Shelf.Small.Strs
import Derived.Shelf.Strings.BuilderF
import Derived.Shelf.Strings.BuilderK
import Derived.Shelf.Strings.Builder2Cap
import Derived.Shelf.Strconv.Atoi
import Derived.Shelf.Strconv.Itoa0
import Derived.Shelf.Strconv.Itoa1
import Derived.Shelf.LaysM
import Derived.Shelf.Strconv.Itoa2
import Derived.Shelf.Strconv.Itoa3
import Derived.Shelf.Strconv.Itoa4
import Derived.Shelf.Strconv.AtoiErrFast
import Derived.Shelf.Strconv.ParseIntEmpty
import Derived.Shelf.Strconv.AtoiFail
import Derived.Shelf.Strconv.Clone
import Derived.Shelf.Strconv.SyntaxError
import Derived.Shelf.LaysC
import Derived.Shelf.Strconv.ToError
import Derived.Shelf.Strconv.Lower
import Derived.Shelf.Strconv.ParseUint10
import Derived.Shelf.Strconv.ParseUint10Empty
import Derived.Shelf.Strconv.ParseUint10Any
import Derived.Shelf.Strconv.ParseInt10
import Derived.Shelf.Strconv.AtoiLong
import Derived.Shelf.Strconv.AtoiInnerAll
import Derived.Shelf.Strconv.RangeError
import Derived.Shelf.Strconv.ToErrorRange
import Derived.Shelf.Strconv.AtoiAll
import Derived.Shelf.Strconv.ParseUintEmpty
import Derived.Shelf.Strconv.ParseUint10b64
import Derived.Shelf.Strconv.ParseUint10b32
import Derived.Shelf.Strconv.ParseUint10b16
import Derived.Shelf.Strconv.ParseUint10b8
import Derived.Shelf.Strconv.ParseUint10At
import Derived.Shelf.Strconv.ParseInt10At64
import Derived.Shelf.Strconv.ParseInt10At32
import Derived.Shelf.Strconv.ParseInt10At16
import Derived.Shelf.Strconv.ParseInt10At8
import Derived.Shelf.Strconv.ParseInt10All
import Derived.Shelf.Strconv.ParseIntPublic10
import Derived.Shelf.Strconv.ErrVarParseInt
import Derived.Shelf.Strings.Search1
import Derived.Shelf.Strings.Search2
import Derived.Shelf.Strings.Search3
import Derived.Shelf.Strings.Cut
import Derived.Shelf.Strings.Count
import Derived.Shelf.Strings.Shaped
import Derived.Shelf.Strings.LastIndex
import Derived.Shelf.Strings.LastIndexAll
import Derived.Shelf.Strings.Prefix
import Derived.Shelf.Strings.Split
import Derived.Shelf.Strings.Runes
import Derived.Shelf.Strings.AsciiSet
import Derived.Shelf.Bits.Mul64
import Derived.Shelf.Strings.Repeat
import Derived.Shelf.Unicode.DecodeSlow
import Derived.Test.YtbfiopoefbbknaaGreatDoorProg
import Derived.Lib.AppendIntMem
import Derived.BigQuiet
set_option linter.unusedSimpArgs false
set_option linter.unusedVariables false
namespace Go.Proofs.YtbfiopoefbbknaaGreatDoor
open Go.RowKit
def dash3 (x : Bs) : Bool := tr x == [45, 45, 45]
def dstep (st : List (List Bs) × List Bs) (x : Bs) : List (List Bs) × List Bs := if dash3 x = true then (st.1 ++ [st.2], []) else (st.1, st.2 ++ [x])
def docR (st : List (List Bs) × List Bs) (l : List Bs) : List (List Bs) × List Bs := l.foldl dstep st
def lnsOf : Bs → List Bs
 | [] => [[]]
 | c :: t => if c = 10 then [] :: lnsOf t else match lnsOf t with
  | [] => [[c]]
  | x :: l => (c :: x) :: l
def docsL (s : Bs) : List Bs := ((docR ([], []) (lnsOf s)).1 ++ [(docR ([], []) (lnsOf s)).2]).map (joinC 10)
theorem lnsOf_ne : ∀ s : Bs, lnsOf s ≠ []
 | [] => by simp [lnsOf]
 | c :: t => by
  rw [lnsOf]
  split
  ·simp
  ·split <;> simp
theorem lnsOf_nl : ∀ (s : Bs), ∀ x ∈ lnsOf s, (10 : UInt8) ∉ x
 | [], x, h => by rw [lnsOf, List.mem_singleton] at h; subst h; simp
 | c :: t, x, h => by
  have ih := lnsOf_nl t
  rw [lnsOf] at h
  split at h
  ·rcases List.mem_cons.1 h with rfl | h
   ·simp
   ·exact ih x h
  ·rename_i hc
   split at h
   ·rw [List.mem_singleton] at h; subst h; simpa using Ne.symm hc
   ·rename_i y l he
    rw [he] at ih
    rcases List.mem_cons.1 h with rfl | h
    ·simp only [List.mem_cons, not_or]
     exact ⟨Ne.symm hc, ih y (by simp)⟩
    ·exact ih x (by simp [h])
theorem joinC_lns : ∀ s : Bs, joinC 10 (lnsOf s) = s
 | [] => rfl
 | c :: t => by
  have ih := joinC_lns t
  rw [lnsOf]
  split
  ·rename_i hc
   subst hc
   cases h : lnsOf t with
   | nil => exact absurd h (lnsOf_ne t)
   | cons x l => rw [joinC_cons, ← h, ih]; rfl
  ·split
   ·rename_i h; exact absurd h (lnsOf_ne t)
   ·rename_i x l h
    rw [h] at ih
    rw [← ih]
    rfl
theorem splT_lns (s : ByteArray) : (splT 10 s).map (fun x => x.data.toList) = lnsOf s.data.toList := splT_join (lnsOf_ne _) (lnsOf_nl _) (joinC_lns _).symm
theorem docR_app (st : List (List Bs) × List Bs) (a b : List Bs) : docR st (a ++ b) = docR (docR st a) b := List.foldl_append
theorem join_lib : ∀ l : List Bs, Lib.join l [10] = joinC 10 l
 | [] => rfl
 | [x] => by simp [Lib.join, joinC, List.intercalate]
 | x :: y :: l => by
  have ih := join_lib (y :: l)
  rw [joinC_cons, ← ih]
  simp [Lib.join, List.intercalate, List.intersperse]
theorem joinC_len {M : Nat} : ∀ l : List Bs, (∀ x ∈ l, x.length ≤ M) → (joinC 10 l).length ≤ l.length * (M + 1)
 | [], _ => by simp [joinC]
 | [x], h => by have := h x (by simp); simp [joinC]; omega
 | x :: y :: l, h => by
  have ih := joinC_len (y :: l) fun z hz => h z (by simp [List.mem_cons.1 hz])
  have hx := h x (by simp)
  rw [joinC_cons, List.length_append, List.length_cons]
  have e : (x :: y :: l).length * (M + 1) = (M + 1) + (y :: l).length * (M + 1) := by rw [List.length_cons (a := x), Nat.add_mul]; omega
  omega
theorem docR_mem : ∀ (l : List Bs) (st : List (List Bs) × List Bs) (P : Bs → Prop), (∀ x ∈ l, P x) → (∀ x ∈ st.2, P x) → (∀ b ∈ st.1, ∀ x ∈ b, P x) → (∀ x ∈ (docR st l).2, P x) ∧ ∀ b ∈ (docR st l).1, ∀ x ∈ b, P x
 | [], st, P, _, h2, h3 => ⟨h2, h3⟩
 | y :: l, st, P, h1, h2, h3 => by
  refine docR_mem l (dstep st y) P (fun x hx => h1 x (by simp [hx])) ?_ ?_
  ·unfold dstep
   split
   ·intro x hx; cases hx
   ·intro x hx
    rcases List.mem_append.1 hx with hx | hx
    ·exact h2 x hx
    ·rw [List.mem_singleton.1 hx]; exact h1 y (by simp)
  ·unfold dstep
   split
   ·intro b hb
    rcases List.mem_append.1 hb with hb | hb
    ·exact h3 b hb
    ·rw [List.mem_singleton.1 hb]; exact h2
   ·exact h3
theorem docR_len : ∀ (l : List Bs) (st : List (List Bs) × List Bs), (docR st l).1.length + (docR st l).2.length ≤ st.1.length + st.2.length + l.length
 | [], st => by simp [docR]
 | y :: l, st => by
  have := docR_len l (dstep st y)
  show (docR (dstep st y) l).1.length + (docR (dstep st y) l).2.length ≤ _
  refine Nat.le_trans this ?_
  unfold dstep
  split <;> simp <;> omega
end Go.Proofs.YtbfiopoefbbknaaGreatDoor
namespace Go.Proofs
open Go.Shelf
def Tryz.lays156_ren : Go.Shelf.Ren := ⟨fun | 156 => 98 | 165 => 143 | 166 => 120 | 169 => 80 | 240 => 170 | 241 => 185 | 276 => 202 | 277 => 212 | n => n, fun | 31 => 93 | 9 => 9 | 3 => 3 | 4 => 4 | 0 => 0 | 20 => 20 | 72 => 120 | 76 => 105 | 70 => 117 | 37 => 118 | 75 => 104 | 127 => 144 | 164 => 203 | 5 => 5 | 80 => 122 | n => n, fun | n => n⟩
theorem Tryz.lays156 : Go.Proofs.Lays.n156 Tryz.prog Tryz.lays156_ren := {
 mixed := by kernel_rfl
 f156 := Tryz.func98.trans (congrArg some (by kernel_rfl))
 f165 := Tryz.func143.trans (congrArg some (by kernel_rfl))
 f166 := Tryz.func120.trans (congrArg some (by kernel_rfl))
 f169 := Tryz.func80.trans (congrArg some (by kernel_rfl))
 f240 := Tryz.func170.trans (congrArg some (by kernel_rfl))
 f241 := Tryz.func185.trans (congrArg some (by kernel_rfl))
 f276 := Tryz.func202.trans (congrArg some (by kernel_rfl))
 f277 := Tryz.func212.trans (congrArg some (by kernel_rfl))
 t0 := Tryz.underlying0
 a0 := Tryz.isAgg0
 z0 := Tryz.sizeOf0
 v0 := Tryz.zeroValue0
 t3 := Tryz.underlying3
 a3 := Tryz.isAgg3
 z3 := Tryz.sizeOf3
 v3 := Tryz.zeroValue3
 t4 := Tryz.underlying4
 a4 := Tryz.isAgg4
 z4 := Tryz.sizeOf4
 v4 := Tryz.zeroValue4
 t9 := Tryz.underlying9
 a9 := Tryz.isAgg9
 z9 := Tryz.sizeOf9
 v9 := Tryz.zeroValue9
 t20 := Tryz.underlying20
 a20 := Tryz.isAgg20
 z20 := Tryz.sizeOf20
 v20 := Tryz.zeroValue20
 t31 := Tryz.underlying93
 a31 := Tryz.isAgg93
 z31 := Tryz.sizeOf93
 v31 := Tryz.zeroValue93
 t37 := Tryz.underlying118
 a37 := Tryz.isAgg118
 z37 := Tryz.sizeOf118
 v37 := Tryz.zeroValue118
 t70 := Tryz.underlying117
 a70 := Tryz.isAgg117
 z70 := Tryz.sizeOf117
 v70 := Tryz.zeroValue117
 t72 := Tryz.underlying120
 a72 := Tryz.isAgg120
 z72 := Tryz.sizeOf120
 v72 := Tryz.zeroValue120
 t75 := Tryz.underlying104
 a75 := Tryz.isAgg104
 z75 := Tryz.sizeOf104
 v75 := Tryz.zeroValue104
 t76 := Tryz.underlying105
 a76 := Tryz.isAgg105
 z76 := Tryz.sizeOf105
 v76 := Tryz.zeroValue105
 t127 := Tryz.underlying144
 a127 := Tryz.isAgg144
 z127 := Tryz.sizeOf144
 v127 := Tryz.zeroValue144
 t164 := Tryz.underlying203
 a164 := Tryz.isAgg203
 z164 := Tryz.sizeOf203
 v164 := Tryz.zeroValue203 }
theorem Tryz.Builder_Extra_156 : Builder.Extra Tryz.prog Tryz.lays156_ren := {
 sizeBuilder := by kernel_rfl
 liesBuilder := by kernel_rfl
 t5 := Tryz.underlying5
 a5 := Tryz.isAgg5
 z5 := Tryz.sizeOf5
 v5 := Tryz.zeroValue5
 infoByte := by kernel_rfl
 cellsByte := by kernel_rfl
 sizeByte := by kernel_rfl
 neB5 := by decide }
open Go.RowKit in
theorem Tryz.strings_Join_none (a : Option Addr) (c : Nat) (sep : ByteArray) (w : World) :
  Calls Tryz.prog 98 #[.slice a 0 c, .string sep] w fun e w' => e = .returned (.string ⟨#[]⟩) ∧ w' = w := Any.strings_Join_none Tryz.lays156 Tryz.Builder_Extra_156 a c sep w
open Go.RowKit in
theorem Tryz.strings_Join (bk o c : Nat) (xs : List ByteArray) (sep : ByteArray) (w : World) (hcells : ∀ (j : Nat) x, xs[j]? = some x → w.cell? ⟨bk, o + j, none⟩ = some (.string x)) (hbk : bk < w.heap.size) (hN : xs.length ≤ 140737488355328) (hcap : xs.length ≤ c) (hlen : (Lib.join (xs.map (·.data.toList)) sep.data.toList).length ≤ 140737488355328) :
  Calls Tryz.prog 98 #[.slice (some ⟨bk, o, none⟩) xs.length c, .string sep] w fun e w' => e = .returned (.string ⟨(Lib.join (xs.map (·.data.toList)) sep.data.toList).toArray⟩) ∧ Below w.heap.size w w' := Any.strings_Join Tryz.lays156 Tryz.Builder_Extra_156 bk o c xs sep w hcells hbk hN hcap hlen
end Go.Proofs
namespace Go.Proofs.YtbfiopoefbbknaaGreatDoor
open Go.RowKit
theorem null_checkC : V.null.checkC = 0 := by decide +kernel
theorem parse_or (s : ByteArray) : ((parseL s).2 = 0 ∧ (parseL s).1.checkC = 0) ∨ ((parseL s).2 ≠ 0 ∧ (parseL s).1 = V.null) := by
 unfold parseL parseT
 split
 ·exact .inr ⟨by decide, rfl⟩
 split
 ·exact .inr ⟨by decide, rfl⟩
 split
 ·exact .inl ⟨rfl, null_checkC⟩
 dsimp only
 split
 ·rename_i h; exact .inr ⟨h, rfl⟩
 split
 ·exact .inr ⟨by decide, rfl⟩
 split
 ·rename_i h; exact .inr ⟨h, rfl⟩
 ·rename_i h; exact .inl ⟨rfl, by simpa using h⟩
theorem parse_good (s : ByteArray) : (parseL s).1.good ∧ (parseL s).1.size ≤ 4096 := by
 rcases parse_or s with ⟨_, h⟩ | ⟨_, h⟩
 ·exact ⟨(V.check_good h).1, (V.check_good h).2.1⟩
 ·rw [h]; exact ⟨(V.check_good null_checkC).1, (V.check_good null_checkC).2.1⟩
theorem good_key {v : V} (h : v.good) {p : ByteArray × V} (hp : p ∈ v.m) : p.1.size ≤ 256 ∧ p.2.good := by
 have h1 := (goodM_iff v.m).1 ((V.good_eq v).1 h).2.2.2.1 p hp
 have := h1.1
 simp only [keyB, Bool.and_eq_true, decide_eq_true_eq] at this
 exact ⟨this.2.2, h1.2⟩
end Go.Proofs.YtbfiopoefbbknaaGreatDoor
namespace Go.Proofs.YtbfiopoefbbknaaGreatDoor
set_option maxRecDepth 100000
def b_object_Of : ACode :=
 .seq (gQ [gP 1 0, ⟨gO, .alloc 2 [.str ⟨#[]⟩, .str ⟨#[]⟩, .str ⟨#[]⟩, .int .i64 0, .bool false, .int .i64 0, .str ⟨#[]⟩, .lst .nil 6 [], .lst .nil 7 []]⟩, gJ 3 0]) (.seq (.seq (gQ [gA 14 6 1, gC 15 33 [.s 14], gM 4 15]) (.seq (gQ [gM 16 4, gU 17 .neq 16 0]) (.cond (.s 17) (.seq (gQ [⟨gO, .build 18 [.str ⟨#[]⟩, .str ⟨#[]⟩, .str ⟨#[]⟩, .int .i64 0, .bool false, .int .i64 0, .str ⟨#[]⟩, .lst .nil 6 [], .lst .nil 7 []] []⟩, gM 19 4, gT 9 2 18, gM 3 19]) .ret) .skip))) (.seq (gQ [gA 21 6 1, ⟨gO, .call (some 22) (.k (.fn 36 [])) [.s 21, gS ⟨#[107, 105, 110, 100]⟩]⟩, gM 20 22, gX 23 0 20, gX 24 1 20, ⟨gO, .alloc 5 gZ⟩, gT 6 5 23, gM 6 24]) (.seq (gQ [gA 26 6 1, ⟨gO, .call (some 27) (.k (.fn 36 [])) [.s 26, gS ⟨#[109, 101, 116, 97, 100, 97, 116, 97]⟩]⟩, gM 25 27, gX 28 0 25, gX 29 1 25, ⟨gO, .alloc 7 gZ⟩, gT 6 7 28, gM 8 29]) (.seq (gQ [gA 31 6 7, ⟨gO, .call (some 32) (.k (.fn 36 [])) [.s 31, gS ⟨#[110, 97, 109, 101]⟩]⟩, gM 30 32, gX 33 0 30, gX 34 1 30, ⟨gO, .alloc 9 gZ⟩, gT 6 9 33, gM 10 34]) (.seq (gQ [gA 36 6 7, ⟨gO, .call (some 37) (.k (.fn 36 [])) [.s 36, gS ⟨#[110, 97, 109, 101, 115, 112, 97, 99, 101]⟩]⟩, gM 35 37, gX 38 0 35, gX 39 1 35, ⟨gO, .alloc 11 gZ⟩, gT 6 11 38, gM 12 39]) (.seq (.seq (gQ [gM 40 12, ⟨gO, .un 41 .not (.s 40)⟩]) (.cond (.s 41) (.reg [⟨gO, .call (some 42) (.k (.fn 40 [])) [gS ⟨#[100, 101, 102, 97, 117, 108, 116]⟩]⟩, gT 6 11 42]) .skip)) (.seq (gQ [gF 43 3 5, gL 44 43, gF 45 3 11, gL 46 45, gF 47 3 9, gL 48 47, ⟨gO, .build 49 [.str ⟨#[]⟩, .str ⟨#[]⟩, .str ⟨#[]⟩] [(0, 1, .s 44), (1, 1, .s 46), (2, 1, .s 48)]⟩, ⟨gO, .alloc 13 [.str ⟨#[]⟩, .str ⟨#[]⟩, .str ⟨#[]⟩]⟩, gT 3 13 49]) (.seq (.seq (gQ [gA 50 3 13, gC 51 142 [.s 50], ⟨gO, .un 52 .not (.s 51)⟩, gM 53 52, ⟨some (53, false), .off 54 0 (.s 13)⟩, ⟨some (53, false), .ld 55 1 false (.s 54)⟩, ⟨some (53, false), .bin 56 .eql false (.s 55) (gS ⟨#[82, 101, 108, 101, 97, 115, 101]⟩)⟩, ⟨gO, .pick 57 (.s 53) (.k (.bool true)) (.s 56)⟩]) (.cond (.s 57) (.seq (gQ [⟨gO, .build 58 [.str ⟨#[]⟩, .str ⟨#[]⟩, .str ⟨#[]⟩, .int .i64 0, .bool false, .int .i64 0, .str ⟨#[]⟩, .lst .nil 6 [], .lst .nil 7 []] []⟩, gT 9 2 58, gJ 3 26]) .ret) .skip)) (.seq (gQ [gA 59 3 13, gA 60 6 1, gC 61 73 [.s 60], ⟨gO, .build 62 [.str ⟨#[]⟩, .str ⟨#[]⟩, .str ⟨#[]⟩, .int .i64 0, .bool false, .int .i64 0, .str ⟨#[]⟩, .lst .nil 6 [], .lst .nil 7 []] [(0, 3, .s 59), (3, 6, .s 61)]⟩, gT 9 2 62, gJ 3 0]) .ret)))))))))
def a_object_Of : AFn := ⟨1, 63, b_object_Of, [.cell 2 9 true, .tmp 3]⟩
theorem a_object_Of_ok : fnAF Tryz.prog [] Tryz.f96 = some a_object_Of := by kernel_rfl
theorem a_object_Of_cb : callable Tryz.prog 96 = true := by kernel_rfl
def b_object_Hook : ACode :=
 .seq (gQ [gP 1 0, ⟨gO, .mov 2 (gS ⟨#[]⟩)⟩]) (.seq (gQ [gF 8 3 1, gA 9 6 8, ⟨gO, .call (some 10) (.k (.fn 36 [])) [.s 9, gS ⟨#[109, 101, 116, 97, 100, 97, 116, 97]⟩]⟩, gM 7 10, gX 11 0 7, gX 12 1 7, ⟨gO, .alloc 3 gZ⟩, gT 6 3 11, gM 4 12]) (.seq (gQ [gA 14 6 3, ⟨gO, .call (some 15) (.k (.fn 36 [])) [.s 14, gS ⟨#[104, 111, 111, 107]⟩]⟩, gM 13 15, gX 16 0 13, gX 17 1 13, ⟨gO, .alloc 5 gZ⟩, gT 6 5 16, gM 6 17]) (.seq (gQ [gF 18 3 5, gL 19 18, gM 2 19]) .ret)))
def a_object_Hook : AFn := ⟨1, 20, b_object_Hook, [.tmp 2]⟩
theorem a_object_Hook_ok : fnAF Tryz.prog [] Tryz.f97 = some a_object_Hook := by kernel_rfl
theorem a_object_Hook_cb : callable Tryz.prog 97 = true := by kernel_rfl
def b_render_Objects : ACode :=
 .seq (gQ [⟨gO, .mov 2 (.k (.lst .nil 9 []))⟩, gJ 3 0]) (.seq (gQ [⟨gO, .mov 4 (.k (.lst .nil 9 []))⟩]) (.seq (.seq (gQ [gM 10 0, gC 11 55 [.s 10], gH 12 false 11, gJ 13 0]) (.block 0 (.loop (.seq (gQ [gV 14 .lss 13 12]) (.seq (.cond (.s 14) .skip (.exit 0)) (.seq (.block 1 (.seq (gQ [gE 15 1 11 13, gL 16 15, gM 6 16]) (.seq (gQ [gM 18 6, gC 19 15 [.s 18], gM 17 19, gX 20 0 17, gX 21 1 17, ⟨gO, .alloc 7 gZ⟩, gT 6 7 20, gM 8 21]) (.seq (.seq (gQ [gM 22 8, gU 23 .neq 22 0]) (.cond (.s 23) (.seq (gQ [gM 24 8, ⟨gO, .mov 2 (.k (.lst .nil 9 []))⟩, gM 3 24]) .ret) .skip)) (.seq (.seq (gQ [gF 25 0 7, gL 26 25, gU 27 .eql 26 0]) (.cond (.s 27) (.exit 1) .skip)) (.seq (gQ [gA 29 6 7, gC 30 96 [.s 29], gM 28 30, gX 31 0 28, gX 32 1 28, ⟨gO, .alloc 9 [.str ⟨#[]⟩, .str ⟨#[]⟩, .str ⟨#[]⟩, .int .i64 0, .bool false, .int .i64 0, .str ⟨#[]⟩, .lst .nil 6 [], .lst .nil 7 []]⟩, gT 9 9 31, gM 8 32]) (.seq (.seq (gQ [gM 33 8, gU 34 .neq 33 0]) (.cond (.s 34) (.seq (gQ [gM 35 8, ⟨gO, .mov 2 (.k (.lst .nil 9 []))⟩, gM 3 35]) .ret) .skip)) (.reg [gM 36 4, gA 37 9 9, ⟨gO, .bsl 38 1 9 [.str ⟨#[]⟩, .str ⟨#[]⟩, .str ⟨#[]⟩, .int .i64 0, .bool false, .int .i64 0, .str ⟨#[]⟩, .lst .nil 6 [], .lst .nil 7 []] [(0, 9, .s 37)]⟩, ⟨gO, .app 39 9 136 (.s 36) (.s 38)⟩, gM 4 39])))))))) (.reg [gU 40 .add 13 1, gM 13 40]))))))) (.seq (gQ [gM 41 4, gM 2 41, gJ 3 0]) .ret)))
def a_render_Objects : AFn := ⟨1, 42, b_render_Objects, [.tmp 2, .tmp 3]⟩
theorem a_render_Objects_ok : fnAF Tryz.prog [] Tryz.f53 = some a_render_Objects := by kernel_rfl
theorem a_render_Objects_cb : callable Tryz.prog 53 = true := by kernel_rfl
def b_render_Split : ACode :=
 .seq (gQ [⟨gO, .mov 4 (.k (.lst .nil 9 []))⟩, ⟨gO, .mov 5 (.k (.lst .nil 9 []))⟩]) (.seq (.seq (gQ [gM 8 0, gH 9 false 8, gJ 10 0]) (.block 0 (.loop (.seq (gQ [gV 11 .lss 10 9]) (.seq (.cond (.s 11) .skip (.exit 0)) (.seq (.block 1 (.seq (gQ [gE 12 9 8 10, gA 13 9 12, ⟨gO, .alloc 7 [.str ⟨#[]⟩, .str ⟨#[]⟩, .str ⟨#[]⟩, .int .i64 0, .bool false, .int .i64 0, .str ⟨#[]⟩, .lst .nil 6 [], .lst .nil 7 []]⟩, gT 9 7 13]) (.seq (gQ [gA 14 9 7, gC 15 97 [.s 14]]) (.block 2 (.seq (gQ [⟨gO, gB 17 .eql (.s 15) (gS ⟨#[]⟩)⟩, gM 16 17]) (.cond (.s 16) (.reg [gM 18 5, gA 19 9 7, ⟨gO, .bsl 20 1 9 [.str ⟨#[]⟩, .str ⟨#[]⟩, .str ⟨#[]⟩, .int .i64 0, .bool false, .int .i64 0, .str ⟨#[]⟩, .lst .nil 6 [], .lst .nil 7 []] [(0, 9, .s 19)]⟩, ⟨gO, .app 21 9 136 (.s 18) (.s 20)⟩, gM 5 21]) (.seq (gQ [gM 23 1, gV 24 .eql 15 23, gM 22 24]) (.cond (.s 22) (.reg [gM 25 4, gA 26 9 7, ⟨gO, .bsl 27 1 9 [.str ⟨#[]⟩, .str ⟨#[]⟩, .str ⟨#[]⟩, .int .i64 0, .bool false, .int .i64 0, .str ⟨#[]⟩, .lst .nil 6 [], .lst .nil 7 []] [(0, 9, .s 26)]⟩, ⟨gO, .app 28 9 136 (.s 25) (.s 27)⟩, gM 4 28]) .skip)))))))) (.reg [gU 29 .add 10 1, gM 10 29]))))))) (.seq (gQ [gM 30 4, gM 31 5, gM 4 30, gM 5 31]) .ret))
def a_render_Split : AFn := ⟨2, 32, b_render_Split, [.tmp 4, .tmp 5]⟩
theorem a_render_Split_ok : fnAF Tryz.prog [] Tryz.f54 = some a_render_Split := by kernel_rfl
theorem a_render_Split_cb : callable Tryz.prog 54 = true := by kernel_rfl
def b_record_Record_Objects : ACode :=
 .seq (gQ [gP 1 0, ⟨gO, .mov 2 (.k (.lst .nil 9 []))⟩, gJ 3 0]) (.seq (gQ [gF 9 6 1, gL 10 9, gC 11 53 [.s 10], gM 8 11, gX 12 0 8, gX 13 1 8, gM 4 12, gM 5 13]) (.seq (.seq (gQ [gM 14 5, gU 15 .neq 14 0]) (.cond (.s 15) (.seq (gQ [⟨gO, .mov 2 (.k (.lst .nil 9 []))⟩, gJ 3 35]) .ret) .skip)) (.seq (gQ [gM 17 4, ⟨gO, .call (some 18) (.k (.fn 54 [])) [.s 17, gS ⟨#[]⟩]⟩, gM 16 18, gX 19 0 16, gX 20 1 16, gM 6 19, gM 7 20]) (.seq (gQ [gM 21 7, gM 2 21, gJ 3 0]) .ret))))
def a_record_Record_Objects : AFn := ⟨1, 22, b_record_Record_Objects, [.tmp 2, .tmp 3]⟩
theorem a_record_Record_Objects_ok : fnAF Tryz.prog [] Tryz.f23 = some a_record_Record_Objects := by kernel_rfl
theorem a_record_Record_Objects_cb : callable Tryz.prog 23 = true := by kernel_rfl
def b_law13_Objects : ACode :=
 .seq (gQ [⟨gO, .mov 2 (.k (.lst .nil 9 []))⟩, gJ 3 0]) (.seq (gQ [⟨gO, .mov 4 (.k (.lst .nil 9 []))⟩]) (.seq (.seq (gQ [gM 11 0, gC 12 55 [.s 11], gH 13 false 12, gJ 14 0]) (.block 0 (.loop (.seq (gQ [gV 15 .lss 14 13]) (.seq (.cond (.s 15) .skip (.exit 0)) (.seq (.block 1 (.seq (gQ [gE 16 1 12 14, gL 17 16, gM 6 17]) (.seq (gQ [gM 19 6, gC 20 15 [.s 19], gM 18 20, gX 21 0 18, gX 22 1 18, ⟨gO, .alloc 7 gZ⟩, gT 6 7 21, gM 8 22]) (.seq (.seq (gQ [gM 23 8, gU 24 .neq 23 0]) (.cond (.s 24) (.seq (gQ [gM 25 8, ⟨gO, .mov 2 (.k (.lst .nil 9 []))⟩, gM 3 25]) .ret) .skip)) (.seq (.seq (gQ [gF 26 0 7, gL 27 26, gU 28 .eql 27 0]) (.cond (.s 28) (.exit 1) .skip)) (.seq (gQ [gA 30 6 7, gC 31 56 [.s 30], gM 29 31, gX 32 0 29, gX 33 1 29, ⟨gO, .alloc 9 [.str ⟨#[]⟩, .str ⟨#[]⟩, .str ⟨#[]⟩, .int .i64 0, .bool false, .int .i64 0, .str ⟨#[]⟩, .lst .nil 6 [], .lst .nil 7 []]⟩, gT 9 9 32, gM 10 33]) (.seq (.seq (gQ [gM 34 10, gU 35 .neq 34 0]) (.cond (.s 35) (.seq (gQ [gM 36 10, ⟨gO, .mov 2 (.k (.lst .nil 9 []))⟩, gM 3 36]) .ret) .skip)) (.reg [gM 37 4, gA 38 9 9, ⟨gO, .bsl 39 1 9 [.str ⟨#[]⟩, .str ⟨#[]⟩, .str ⟨#[]⟩, .int .i64 0, .bool false, .int .i64 0, .str ⟨#[]⟩, .lst .nil 6 [], .lst .nil 7 []] [(0, 9, .s 38)]⟩, ⟨gO, .app 40 9 136 (.s 37) (.s 39)⟩, gM 4 40])))))))) (.reg [gU 41 .add 14 1, gM 14 41]))))))) (.seq (gQ [gM 42 4, gM 2 42, gJ 3 0]) .ret)))
def a_law13_Objects : AFn := ⟨1, 43, b_law13_Objects, [.tmp 2, .tmp 3]⟩
theorem a_law13_Objects_ok : fnAF Tryz.prog [] Tryz.f24 = some a_law13_Objects := by kernel_rfl
theorem a_law13_Objects_cb : callable Tryz.prog 24 = true := by kernel_rfl
def b_ref12_Of : ACode :=
 .seq (gQ [gP 1 0, ⟨gO, .alloc 2 [.str ⟨#[]⟩, .str ⟨#[]⟩, .str ⟨#[]⟩, .int .i64 0, .bool false, .int .i64 0, .str ⟨#[]⟩, .lst .nil 6 [], .lst .nil 7 []]⟩, gJ 3 0]) (.seq (.seq (gQ [gA 14 6 1, gC 15 99 [.s 14], gM 4 15]) (.seq (gQ [gM 16 4, gU 17 .neq 16 0]) (.cond (.s 17) (.seq (gQ [⟨gO, .build 18 [.str ⟨#[]⟩, .str ⟨#[]⟩, .str ⟨#[]⟩, .int .i64 0, .bool false, .int .i64 0, .str ⟨#[]⟩, .lst .nil 6 [], .lst .nil 7 []] []⟩, gM 19 4, gT 9 2 18, gM 3 19]) .ret) .skip))) (.seq (gQ [gA 21 6 1, ⟨gO, .call (some 22) (.k (.fn 43 [])) [.s 21, gS ⟨#[107, 105, 110, 100]⟩]⟩, gM 20 22, gX 23 0 20, gX 24 1 20, ⟨gO, .alloc 5 gZ⟩, gT 6 5 23, gM 6 24]) (.seq (gQ [gA 26 6 1, ⟨gO, .call (some 27) (.k (.fn 43 [])) [.s 26, gS ⟨#[109, 101, 116, 97, 100, 97, 116, 97]⟩]⟩, gM 25 27, gX 28 0 25, gX 29 1 25, ⟨gO, .alloc 7 gZ⟩, gT 6 7 28, gM 8 29]) (.seq (gQ [gA 31 6 7, ⟨gO, .call (some 32) (.k (.fn 43 [])) [.s 31, gS ⟨#[110, 97, 109, 101]⟩]⟩, gM 30 32, gX 33 0 30, gX 34 1 30, ⟨gO, .alloc 9 gZ⟩, gT 6 9 33, gM 10 34]) (.seq (gQ [gA 36 6 7, ⟨gO, .call (some 37) (.k (.fn 43 [])) [.s 36, gS ⟨#[110, 97, 109, 101, 115, 112, 97, 99, 101]⟩]⟩, gM 35 37, gX 38 0 35, gX 39 1 35, ⟨gO, .alloc 11 gZ⟩, gT 6 11 38, gM 12 39]) (.seq (gQ [gF 40 3 5, gL 41 40, gF 42 3 11, gL 43 42, gF 44 3 9, gL 45 44, ⟨gO, .build 46 [.str ⟨#[]⟩, .str ⟨#[]⟩, .str ⟨#[]⟩] [(0, 1, .s 41), (1, 1, .s 43), (2, 1, .s 45)]⟩, ⟨gO, .alloc 13 [.str ⟨#[]⟩, .str ⟨#[]⟩, .str ⟨#[]⟩]⟩, gT 3 13 46]) (.seq (.seq (gQ [gM 47 12, ⟨gO, .un 48 .not (.s 47)⟩]) (.cond (.s 48) (.reg [gF 49 1 13, ⟨gO, .st 1 (.s 49) (gS ⟨#[100, 101, 102, 97, 117, 108, 116]⟩)⟩]) .skip)) (.seq (.seq (gQ [gA 50 3 13, gC 51 100 [.s 50], ⟨gO, .un 52 .not (.s 51)⟩, gM 53 52, ⟨some (53, false), .off 54 0 (.s 13)⟩, ⟨some (53, false), .ld 55 1 false (.s 54)⟩, ⟨some (53, false), .bin 56 .eql false (.s 55) (gS ⟨#[82, 101, 108, 101, 97, 115, 101]⟩)⟩, ⟨gO, .pick 57 (.s 53) (.k (.bool true)) (.s 56)⟩]) (.cond (.s 57) (.seq (gQ [⟨gO, .build 58 [.str ⟨#[]⟩, .str ⟨#[]⟩, .str ⟨#[]⟩, .int .i64 0, .bool false, .int .i64 0, .str ⟨#[]⟩, .lst .nil 6 [], .lst .nil 7 []] []⟩, gT 9 2 58, gJ 3 26]) .ret) .skip)) (.seq (gQ [gA 59 3 13, gA 60 6 1, ⟨gO, .build 61 [.str ⟨#[]⟩, .str ⟨#[]⟩, .str ⟨#[]⟩, .int .i64 0, .bool false, .int .i64 0, .str ⟨#[]⟩, .lst .nil 6 [], .lst .nil 7 []] [(0, 3, .s 59), (3, 6, .s 60)]⟩, gT 9 2 61, gJ 3 0]) .ret)))))))))
def a_ref12_Of : AFn := ⟨1, 62, b_ref12_Of, [.cell 2 9 true, .tmp 3]⟩
theorem a_ref12_Of_ok : fnAF Tryz.prog [] Tryz.f56 = some a_ref12_Of := by kernel_rfl
theorem a_ref12_Of_cb : callable Tryz.prog 56 = true := by kernel_rfl
def b_ref12_Hook : ACode :=
 .seq (gQ [gP 1 0, ⟨gO, .mov 2 (gS ⟨#[]⟩)⟩]) (.seq (gQ [gF 8 3 1, gA 9 6 8, ⟨gO, .call (some 10) (.k (.fn 43 [])) [.s 9, gS ⟨#[109, 101, 116, 97, 100, 97, 116, 97]⟩]⟩, gM 7 10, gX 11 0 7, gX 12 1 7, ⟨gO, .alloc 3 gZ⟩, gT 6 3 11, gM 4 12]) (.seq (gQ [gA 14 6 3, ⟨gO, .call (some 15) (.k (.fn 43 [])) [.s 14, gS ⟨#[104, 111, 111, 107]⟩]⟩, gM 13 15, gX 16 0 13, gX 17 1 13, ⟨gO, .alloc 5 gZ⟩, gT 6 5 16, gM 6 17]) (.seq (gQ [gF 18 3 5, gL 19 18, gM 2 19]) .ret)))
def a_ref12_Hook : AFn := ⟨1, 20, b_ref12_Hook, [.tmp 2]⟩
theorem a_ref12_Hook_ok : fnAF Tryz.prog [] Tryz.f25 = some a_ref12_Hook := by kernel_rfl
theorem a_ref12_Hook_cb : callable Tryz.prog 25 = true := by kernel_rfl
def b_ref12_Same : ACode :=
 .seq (gQ [⟨gO, .mov 4 (.k (.bool false))⟩]) (.seq (.seq (gQ [gM 6 0, gH 7 false 6, gM 8 1, gH 9 false 8, gV 10 .neq 7 9]) (.cond (.s 10) (.seq (gQ [⟨gO, .mov 4 (.k (.bool false))⟩]) .ret) .skip)) (.seq (.seq (gQ [gJ 5 0]) (.block 0 (.loop (.seq (.seq (gQ [gM 11 5, gM 12 0, gH 13 false 12, gV 14 .lss 11 13]) (.cond (.s 14) .skip (.exit 0))) (.seq (.block 1 (.seq (gQ [gM 17 0, gM 18 5, gE 19 9 17 18, gF 20 0 19, gA 21 3 20, gM 22 1, gM 23 5, gE 24 9 22 23, gF 25 0 24, gA 26 3 25, ⟨gO, .eqs 27 true 58 (.s 21) (.s 26)⟩, gM 28 27, gN 28 false 29 0, gN 28 false 30 5, ⟨some (28, false), .idx 31 9 (.s 29) (.s 30)⟩, ⟨some (28, false), .off 32 3 (.s 31)⟩, ⟨some (28, false), .ld 33 6 true (.s 32)⟩, gN 28 false 34 1, gN 28 false 35 5, ⟨some (28, false), .idx 36 9 (.s 34) (.s 35)⟩, ⟨some (28, false), .off 37 3 (.s 36)⟩, ⟨some (28, false), .ld 38 6 true (.s 37)⟩, ⟨some (28, false), .call (some 39) (.k (.fn 31 [])) [.s 33, .s 38]⟩, ⟨some (28, false), .un 40 .not (.s 39)⟩, ⟨gO, .pick 41 (.s 28) (.k (.bool true)) (.s 40)⟩]) (.cond (.s 41) (.seq (gQ [⟨gO, .mov 4 (.k (.bool false))⟩]) .ret) .skip))) (.reg [gM 15 5, gU 16 .add 15 1, gM 5 16])))))) (.seq (gQ [⟨gO, .mov 4 (.k (.bool true))⟩]) .ret)))
def a_ref12_Same : AFn := ⟨2, 42, b_ref12_Same, [.tmp 4]⟩
theorem a_ref12_Same_ok : fnAF Tryz.prog [] Tryz.f26 = some a_ref12_Same := by kernel_rfl
theorem a_ref12_Same_cb : callable Tryz.prog 26 = true := by kernel_rfl
def b_ref12_Right : ACode :=
 .seq (gQ [gP 1 0, ⟨gO, .mov 2 (.k (.bool false))⟩]) (.seq (gQ [gF 3 0 1, gL 4 3, gC 5 147 [.s 4], gM 6 5, ⟨some (6, true), .off 7 1 (.s 1)⟩, ⟨some (6, true), .ld 8 1 false (.s 7)⟩, ⟨some (6, true), .call (some 9) (.k (.fn 147 [])) [.s 8]⟩, ⟨gO, .pick 10 (.s 6) (.s 9) (.k (.bool false))⟩, gM 11 10, ⟨some (11, true), .off 12 2 (.s 1)⟩, ⟨some (11, true), .ld 13 1 false (.s 12)⟩, ⟨some (11, true), .call (some 14) (.k (.fn 147 [])) [.s 13]⟩, ⟨gO, .pick 15 (.s 11) (.s 14) (.k (.bool false))⟩, gM 2 15]) .ret)
def a_ref12_Right : AFn := ⟨1, 16, b_ref12_Right, [.tmp 2]⟩
theorem a_ref12_Right_ok : fnAF Tryz.prog [] Tryz.f100 = some a_ref12_Right := by kernel_rfl
theorem a_ref12_Right_cb : callable Tryz.prog 100 = true := by kernel_rfl
def b_ref12_Word : ACode :=
 .seq (gQ [⟨gO, .mov 2 (.k (.bool false))⟩]) (.seq (.seq (gQ [gJ 3 0]) (.block 0 (.loop (.seq (.seq (gQ [gM 4 3, gM 5 0, gH 6 true 5, gV 7 .lss 4 6]) (.cond (.s 7) .skip (.exit 0))) (.seq (.block 1 (.seq (gQ [gM 10 0, gM 11 3, ⟨gO, .bidx 12 (.s 10) (.s 11)⟩, ⟨gO, gB 13 .eql (.s 12) (.k (.int .u8 47))⟩]) (.cond (.s 13) (.seq (gQ [⟨gO, .mov 2 (.k (.bool false))⟩]) .ret) .skip))) (.reg [gM 8 3, gU 9 .add 8 1, gM 3 9])))))) (.seq (gQ [gM 14 0, gC 15 50 [.s 14], gM 16 15, gN 16 true 17 0, ⟨some (16, true), .len 18 true (.s 17)⟩, ⟨some (16, true), .bin 19 .leq false (.s 18) (gI 64)⟩, ⟨gO, .pick 20 (.s 16) (.s 19) (.k (.bool false))⟩, gM 2 20]) .ret))
def a_ref12_Word : AFn := ⟨1, 21, b_ref12_Word, [.tmp 2]⟩
theorem a_ref12_Word_ok : fnAF Tryz.prog [] Tryz.f147 = some a_ref12_Word := by kernel_rfl
theorem a_ref12_Word_cb : callable Tryz.prog 147 = true := by kernel_rfl
def b_law17_RecordEncodes : ACode :=
 .seq (gQ [gP 1 0, ⟨gO, .mov 2 (.k (.bool false))⟩]) (.seq (.seq (gQ [gA 17 7 1, gC 18 17 [.s 17], ⟨gO, .un 19 .not (.s 18)⟩]) (.cond (.s 19) (.seq (gQ [gC 20 18 [], gM 2 20]) .ret) .skip)) (.seq (gQ [gA 21 7 1, ⟨gO, .alloc 3 [.str ⟨#[]⟩, .int .i64 0, .int .i64 0, .int .i64 0, .str ⟨#[]⟩, .str ⟨#[]⟩, .str ⟨#[]⟩]⟩, gT 7 3 21]) (.seq (.seq (gQ [gA 22 7 3, gC 23 19 [.s 22], gA 24 7 1, gC 25 20 [.s 24], ⟨gO, .bin 26 .neq true (.s 23) (.s 25)⟩, gM 27 26, ⟨some (27, false), .off 28 0 (.s 1)⟩, ⟨some (27, false), .ld 29 1 false (.s 28)⟩, ⟨some (27, false), .call (some 30) (.k (.fn 21 [])) [.s 29]⟩, ⟨some (27, false), .off 31 0 (.s 1)⟩, ⟨some (27, false), .ld 32 1 false (.s 31)⟩, ⟨some (27, false), .call (some 33) (.k (.fn 22 [])) [.s 32]⟩, ⟨some (27, false), .bin 34 .neq true (.s 30) (.s 33)⟩, ⟨gO, .pick 35 (.s 27) (.k (.bool true)) (.s 34)⟩]) (.cond (.s 35) (.seq (gQ [⟨gO, .mov 2 (.k (.bool false))⟩]) .ret) .skip)) (.seq (gQ [gA 37 7 3, gC 38 23 [.s 37], gM 36 38, gX 39 0 36, gX 40 1 36, gM 4 39, gM 5 40]) (.seq (gQ [gF 42 6 1, gL 43 42, gC 44 24 [.s 43], gM 41 44, gX 45 0 41, gX 46 1 41, gM 6 45, gM 7 46]) (.seq (.seq (gQ [gM 47 5, gU 48 .eql 47 0, gM 49 7, gU 50 .eql 49 0, ⟨gO, .bin 51 .neq true (.s 48) (.s 50)⟩, gM 52 51, gN 52 false 53 5, ⟨some (52, false), .bin 54 .neq false (.s 53) (gI 0)⟩, gN 52 false 55 54, gN 55 true 56 5, ⟨some (55, true), .bin 57 .neq false (.s 56) (gI 35)⟩, ⟨some (52, false), .pick 58 (.s 55) (.s 57) (.k (.bool false))⟩, ⟨gO, .pick 59 (.s 52) (.k (.bool true)) (.s 58)⟩]) (.cond (.s 59) (.seq (gQ [⟨gO, .mov 2 (.k (.bool false))⟩]) .ret) .skip)) (.seq (gQ [⟨gO, .mov 8 (.k (.lst .nil 9 []))⟩]) (.seq (.seq (gQ [gM 60 6, gH 61 false 60, gJ 62 0]) (.block 0 (.loop (.seq (gQ [gV 63 .lss 62 61]) (.seq (.cond (.s 63) .skip (.exit 0)) (.seq (.block 1 (.seq (gQ [gE 64 9 60 62, gA 65 9 64, ⟨gO, .alloc 10 [.str ⟨#[]⟩, .str ⟨#[]⟩, .str ⟨#[]⟩, .int .i64 0, .bool false, .int .i64 0, .str ⟨#[]⟩, .lst .nil 6 [], .lst .nil 7 []]⟩, gT 9 10 65]) (.seq (gQ [gA 66 9 10, gC 67 25 [.s 66], ⟨gO, gB 68 .eql (.s 67) (gS ⟨#[]⟩)⟩]) (.cond (.s 68) (.reg [gM 69 8, gA 70 9 10, ⟨gO, .bsl 71 1 9 [.str ⟨#[]⟩, .str ⟨#[]⟩, .str ⟨#[]⟩, .int .i64 0, .bool false, .int .i64 0, .str ⟨#[]⟩, .lst .nil 6 [], .lst .nil 7 []] [(0, 9, .s 70)]⟩, ⟨gO, .app 72 9 136 (.s 69) (.s 71)⟩, gM 8 72]) .skip)))) (.reg [gU 73 .add 62 1, gM 62 73]))))))) (.seq (.seq (gQ [gM 74 4, gM 75 8, gC 76 26 [.s 74, .s 75], ⟨gO, .un 77 .not (.s 76)⟩]) (.cond (.s 77) (.seq (gQ [⟨gO, .mov 2 (.k (.bool false))⟩]) .ret) .skip)) (.seq (.seq (gQ [gA 78 7 1, gC 79 20 [.s 78], ⟨gO, .un 80 .not (.s 79)⟩]) (.cond (.s 80) (.seq (gQ [gC 81 18 [], gM 2 81]) .ret) .skip)) (.seq (gQ [gA 82 7 3, gC 83 27 [.s 82], ⟨gO, .alloc 11 gZ⟩, gT 6 11 83]) (.seq (gQ [gF 85 0 1, gL 86 85, gF 87 1 1, gL 88 87, gC 89 29 [.s 86, .s 88], gA 90 6 11, ⟨gO, .build 91 [.str ⟨#[]⟩, .str ⟨#[]⟩, .str ⟨#[]⟩, .int .i64 0, .bool false, .int .i64 0, .str ⟨#[]⟩, .lst .nil 6 [], .lst .nil 7 []] [(0, 3, .s 89), (3, 6, .s 90)]⟩, gC 92 28 [.s 91], gM 84 92, gX 93 0 84, gX 94 1 84, ⟨gO, .alloc 12 [.str ⟨#[]⟩, .int .i64 0, .int .i64 0, .int .i64 0, .str ⟨#[]⟩, .str ⟨#[]⟩, .str ⟨#[]⟩]⟩, gT 7 12 93, gM 13 94]) (.seq (gQ [gF 96 0 1, gL 97 96, gF 98 1 1, gL 99 98, gC 100 29 [.s 97, .s 99], gC 101 30 [.s 100], gM 95 101, gX 102 0 95, gX 103 1 95, gX 104 2 95, gM 14 102, gM 15 103, gM 16 104]) (.seq (gQ [gC 105 18 [], gM 106 105, ⟨some (106, true), .ld 107 6 true (.s 11)⟩, ⟨some (106, true), .ld 108 7 true (.s 1)⟩, ⟨some (106, true), .call (some 109) (.k (.fn 32 [])) [.s 108]⟩, ⟨some (106, true), .call (some 110) (.k (.fn 31 [])) [.s 107, .s 109]⟩, ⟨gO, .pick 111 (.s 106) (.s 110) (.k (.bool false))⟩, gM 112 111, ⟨some (112, true), .ld 113 6 true (.s 11)⟩, ⟨some (112, true), .call (some 114) (.k (.fn 33 [])) [.s 113]⟩, ⟨some (112, true), .bin 115 .eql false (.s 114) (gI 0)⟩, ⟨gO, .pick 116 (.s 112) (.s 115) (.k (.bool false))⟩, gM 117 116, gN 117 true 118 13, ⟨some (117, true), .bin 119 .eql false (.s 118) (gI 0)⟩, ⟨gO, .pick 120 (.s 117) (.s 119) (.k (.bool false))⟩, gM 121 120, ⟨some (121, true), .ld 122 7 true (.s 12)⟩, ⟨some (121, true), .ld 123 7 true (.s 3)⟩, ⟨some (121, true), .eqs 124 false 50 (.s 122) (.s 123)⟩, ⟨gO, .pick 125 (.s 121) (.s 124) (.k (.bool false))⟩, gM 126 125, gN 126 true 127 16, ⟨gO, .pick 128 (.s 126) (.s 127) (.k (.bool false))⟩, gM 129 128, gN 129 true 130 14, ⟨some (129, true), .off 131 0 (.s 1)⟩, ⟨some (129, true), .ld 132 1 false (.s 131)⟩, ⟨some (129, true), .bin 133 .eql false (.s 130) (.s 132)⟩, ⟨gO, .pick 134 (.s 129) (.s 133) (.k (.bool false))⟩, gM 135 134, gN 135 true 136 15, ⟨some (135, true), .off 137 1 (.s 1)⟩, ⟨some (135, true), .ld 138 1 false (.s 137)⟩, ⟨some (135, true), .bin 139 .eql false (.s 136) (.s 138)⟩, ⟨gO, .pick 140 (.s 135) (.s 139) (.k (.bool false))⟩, gM 141 140, ⟨some (141, true), .off 142 0 (.s 1)⟩, ⟨some (141, true), .ld 143 1 false (.s 142)⟩, ⟨some (141, true), .off 144 1 (.s 1)⟩, ⟨some (141, true), .ld 145 1 false (.s 144)⟩, ⟨some (141, true), .call (some 146) (.k (.fn 29 [])) [.s 143, .s 145]⟩, ⟨some (141, true), .off 147 0 (.s 1)⟩, ⟨some (141, true), .ld 148 1 false (.s 147)⟩, ⟨some (141, true), .off 149 1 (.s 1)⟩, ⟨some (141, true), .ld 150 1 false (.s 149)⟩, ⟨some (141, true), .call (some 151) (.k (.fn 34 [])) [.s 148, .s 150]⟩, ⟨some (141, true), .eqs 152 false 58 (.s 146) (.s 151)⟩, ⟨gO, .pick 153 (.s 141) (.s 152) (.k (.bool false))⟩, gM 2 153]) .ret))))))))))))))
def a_law17_RecordEncodes : AFn := ⟨1, 154, b_law17_RecordEncodes, [.tmp 2]⟩
theorem a_law17_RecordEncodes_ok : fnAF Tryz.prog [] Tryz.f5 = some a_law17_RecordEncodes := by kernel_rfl
theorem a_law17_RecordEncodes_cb : callable Tryz.prog 5 = true := by kernel_rfl
def b_yaml_Docs : ACode :=
 .seq (gQ [⟨gO, .mov 2 (.k (.lst .nil 1 []))⟩]) (.seq (gQ [⟨gO, .mov 3 (.k (.lst .nil 1 []))⟩]) (.seq (gQ [⟨gO, .mov 4 (.k (.lst .nil 1 []))⟩]) (.seq (.seq (gQ [gM 7 0, ⟨gO, .call (some 8) (.k (.fn 75 [])) [.s 7, gS ⟨#[10]⟩]⟩, gH 9 false 8, gJ 10 0]) (.block 0 (.loop (.seq (gQ [gV 11 .lss 10 9]) (.seq (.cond (.s 11) .skip (.exit 0)) (.seq (.block 1 (.seq (gQ [gE 12 1 8 10, gL 13 12, gM 6 13]) (.seq (.seq (gQ [gM 14 6, ⟨gO, .call (some 15) (.k (.fn 84 [])) [.s 14, gS ⟨#[32]⟩]⟩, ⟨gO, gB 16 .eql (.s 15) (gS ⟨#[45, 45, 45]⟩)⟩]) (.cond (.s 16) (.seq (gQ [gM 17 3, gM 18 4, ⟨gO, .call (some 19) (.k (.fn 98 [])) [.s 18, gS ⟨#[10]⟩]⟩, ⟨gO, .bsl 20 1 1 [.str ⟨#[]⟩] [(0, 1, .s 19)]⟩, ⟨gO, .app 21 1 16 (.s 17) (.s 20)⟩, gM 3 21]) (.seq (gQ [⟨gO, .mov 4 (.k (.lst .nil 1 []))⟩]) (.exit 1))) .skip)) (.reg [gM 22 4, gM 23 6, ⟨gO, .bsl 24 1 1 [.str ⟨#[]⟩] [(0, 1, .s 23)]⟩, ⟨gO, .app 25 1 16 (.s 22) (.s 24)⟩, gM 4 25])))) (.reg [gU 26 .add 10 1, gM 10 26]))))))) (.seq (gQ [gM 27 3, gM 28 4, ⟨gO, .call (some 29) (.k (.fn 98 [])) [.s 28, gS ⟨#[10]⟩]⟩, ⟨gO, .bsl 30 1 1 [.str ⟨#[]⟩] [(0, 1, .s 29)]⟩, ⟨gO, .app 31 1 16 (.s 27) (.s 30)⟩, gM 2 31]) .ret))))
def a_yaml_Docs : AFn := ⟨1, 32, b_yaml_Docs, [.tmp 2]⟩
theorem a_yaml_Docs_ok : fnAF Tryz.prog [] Tryz.f55 = some a_yaml_Docs := by kernel_rfl
theorem a_yaml_Docs_cb : callable Tryz.prog 55 = true := by kernel_rfl
end Go.Proofs.YtbfiopoefbbknaaGreatDoor
namespace Go.Proofs.YtbfiopoefbbknaaGreatDoor
open Go.RowKit
def wordOkB (s : ByteArray) : Bool := noSl s && (bareB s && decide (s.size ≤ 64))
theorem refWordOk_a (s : ByteArray) (hs : s.size ≤ 140737488355328) : AC Tryz.prog 147 [.str s] (.bool (wordOkB s)) := by
 have hB := refBare_a s hs
 refine kE Tryz.func147 a_ref12_Word_ok a_ref12_Word_cb fun E hE => ?_
 refine kW ?_
 refine AK.loopI (fun k : Nat => (frOf [(0, .str s), (3, .int .i64 k)], ⟨boxOf [], fun _ => 0⟩)) (fun k => k ≤ s.size ∧ ∀ j, (h : j < s.size) → j < k → s[j].toNat ≠ 47) (fun k => s.size - k) 0 ⟨by omega, fun j h h2 => by omega⟩ (Weak.intro ⟨kI, kI, trivial⟩ trivial rfl rfl) fun k ⟨hk, hno⟩ => ?_
 refine kW ?_
 refine kC (fun hb => ?_) fun hb => ?_
 ·have hlt : k < s.size := by simpa using hb
  refine kW ?_
  refine kQ [] ?_
  rw [show s.data.getD (k : Int).toNat 0 = s[k] from byte_at hlt]
  refine kC (fun hb => ?_) fun hb => ?_
  ·have hf : s[k].toNat = 47 := by have h : ((s[k].toNat : Nat) : Int) = 47 := by simpa using hb
                                   omega
   refine kW ?_
   refine AK.ret ⟨_, rfl, ?_⟩
   rw [wordOkB, noSl_no hlt hf]
   rfl
  ·have hf : s[k].toNat ≠ 47 := by have h : ¬ ((s[k].toNat : Nat) : Int) = 47 := by simpa using hb
                                   omega
   refine kW ?_
   exact AK.lp ⟨k + 1, ⟨by omega, fun j h h2 => by
    by_cases e : j = k
    ·subst e; exact hf
    ·exact hno j h (by omega)⟩, Weak.intro ⟨kI, kU, trivial⟩ trivial rfl rfl, by omega⟩
 ·have hlt : s.size ≤ k := by simpa using hb
  have hall : noSl s = true := decide_eq_true fun j h => hno j h (by omega)
  refine AK.exit rfl ?_
  refine kW ?_
  refine kQ [.v (.bool (bareB s))] ?_
  refine kW ?_
  refine AK.ret ⟨_, rfl, ?_⟩
  refine congrArg AV.bool ?_
  rw [wordOkB, hall]
  cases bareB s <;> simp <;> omega
theorem refRight_a (a b c : ByteArray) (ha : a.size ≤ 140737488355328) (hb : b.size ≤ 140737488355328) (hc : c.size ≤ 140737488355328) : AC Tryz.prog 100 [.agg [.str a, .str b, .str c]] (.bool (wordOkB a && wordOkB b && wordOkB c)) := by
 have h1 := refWordOk_a a ha
 have h2 := refWordOk_a b hb
 have h3 := refWordOk_a c hc
 refine kE Tryz.func100 a_ref12_Right_ok a_ref12_Right_cb fun E hE => ?_
 refine kW ?_
 refine kQ [.v (.bool (wordOkB a)), .v (.bool (wordOkB b)), .v (.bool (wordOkB c))] ?_
 refine kW ?_
 refine AK.ret ⟨_, rfl, ?_⟩
 cases wordOkB a <;> cases wordOkB b <;> rfl
def kKind : ByteArray := ⟨#[107, 105, 110, 100]⟩
def kMeta : ByteArray := ⟨#[109, 101, 116, 97, 100, 97, 116, 97]⟩
def kName : ByteArray := ⟨#[110, 97, 109, 101]⟩
def kNs : ByteArray := ⟨#[110, 97, 109, 101, 115, 112, 97, 99, 101]⟩
def kHook : ByteArray := ⟨#[104, 111, 111, 107]⟩
def mv (key : ByteArray) (v : V) : V := (mfind key v.m).getD V.null
structure Ob where
 k : ByteArray
 s : ByteArray
 n : ByteArray
 v : V
def Ob.rt (o : Ob) : Bool := wordOkB o.k && wordOkB o.s && wordOkB o.n
abbrev obC (o : Ob) : List AV := .str o.k :: .str o.s :: .str o.n :: vC o.v
def rowsO (l : List Ob) : List (List AV) := l.map fun o => obC o
def ob0 : Ob := ⟨⟨#[]⟩, ⟨#[]⟩, ⟨#[]⟩, V.null⟩
theorem rowsO_len (l : List Ob) : (rowsO l).length = l.length := List.length_map _
theorem rowsO_at {l : List Ob} {k : Nat} {o : Ob} (h : l[k]? = some o) : (rowsO l)[k]? = some (obC o) := by simp [rowsO, h]
theorem rowsO_snoc (l : List Ob) (o : Ob) : rowsO (l ++ [o]) = rowsO l ++ [obC o] := by simp [rowsO]
def obOf (v : V) : Ob := ⟨(mv kKind v).s, if (mfind kNs (mv kMeta v).m).isSome = true then (mv kNs (mv kMeta v)).s else defB, (mv kName (mv kMeta v)).s, v⟩
def objOf (v : V) : Ob × Int := if v.checkC ≠ 0 then (ob0, v.checkC) else if (!(obOf v).rt || decide ((obOf v).k = hidB)) = true then (ob0, 26) else (obOf v, 0)
def hookOf (o : Ob) : ByteArray := (mv kHook (mv kMeta o.v)).s
def objsF : List ByteArray → List Ob → List Ob × Int
 | [], out => (out, 0)
 | d :: ds, out => if (parseL d).2 ≠ 0 then ([], (parseL d).2) else if (parseL d).1.kind = 0 then objsF ds out else if (objOf (parseL d).1).2 ≠ 0 then ([], (objOf (parseL d).1).2) else objsF ds (out ++ [(objOf (parseL d).1).1])
def objsL (s : ByteArray) : List Ob × Int := objsF ((docsL s.data.toList).map toB) []
theorem text_size {s : ByteArray} (h : textB s = true) : s.size ≤ 65536 := by
 simp only [textB, Bool.and_eq_true, decide_eq_true_eq] at h
 exact h.2
theorem good_sb : ∀ (n : Nat) (v : V), v.size ≤ n → n ≤ 1000000 → v.good → v.sb := by
 intro n
 induction n with
 | zero => intro v h; have := v.size_pos; omega
 | succ n ih =>
  intro v h hn hg
  have hve := v.size_eq
  have h1 := len_le_sizeM v.m
  have h2 := len_le_sizeL v.l
  have he := (V.good_eq v).1 hg
  have ht := text_size he.2.1
  refine (V.sb_eq v).2 ⟨by omega, ⟨by omega, by omega⟩, (sbL_iff _).2 fun x hx => ?_, (sbM_iff _).2 fun p hp => ?_⟩
  ·have := mem_sizeL hx
   exact ih x (by omega) (by omega) (good_l hg hx)
  ·have := mem_sizeM hp
   have hk := (good_key hg hp).1
   exact ⟨by omega, ih p.2 (by omega) (by omega) (good_key hg hp).2⟩
theorem null_good : V.null.good := (V.check_good null_checkC).1
theorem mv_good {v : V} (h : v.good) (key : ByteArray) : (mv key v).good ∧ (mv key v).size ≤ v.size ∧ (mv key v).s.size ≤ 65536 := by
 have h1 : (mv key v).good ∧ (mv key v).size ≤ v.size := by
  unfold mv
  cases hf : mfind key v.m with
  | none => exact ⟨null_good, by rw [Option.getD_none, null_size]; exact v.size_pos⟩
  | some x => exact ⟨(good_key h (mem_of_mfind hf)).2, Nat.le_of_lt (mfind_size hf)⟩
 exact ⟨h1.1, h1.2, text_size ((V.good_eq _).1 h1.1).2.1⟩
theorem objOf_ok {v : V} (h : (objOf v).2 = 0) : v.checkC = 0 ∧ (obOf v).rt = true ∧ (obOf v).k ≠ hidB ∧ (objOf v).1 = obOf v := by
 unfold objOf at h ⊢
 split at h
 ·rename_i h1; exact absurd h h1
 rename_i h1
 split at h
 ·cases h
 rename_i h2
 rw [if_neg h1, if_neg h2]
 simp at h1 h2
 exact ⟨h1, h2.1, h2.2, rfl⟩
theorem objsF_len : ∀ (ds : List ByteArray) (out : List Ob), (objsF ds out).1.length ≤ out.length + ds.length
 | [], out => Nat.le_refl _
 | d :: ds, out => by
  have h1 := objsF_len ds out
  have h2 := objsF_len ds (out ++ [(objOf (parseL d).1).1])
  rw [objsF]
  (repeat' split) <;> simp at h1 h2 ⊢ <;> omega
theorem objsF_all {P : Ob → Prop} (hP : ∀ d, (parseL d).2 = 0 → (objOf (parseL d).1).2 = 0 → P (objOf (parseL d).1).1) : ∀ (ds : List ByteArray) (out : List Ob), (∀ o ∈ out, P o) → ∀ o ∈ (objsF ds out).1, P o
 | [], out, h => h
 | d :: ds, out, h => by
  rw [objsF]
  split
  ·intro o ho; cases ho
  rename_i h1
  split
  ·exact objsF_all hP ds out h
  split
  ·intro o ho; cases ho
  rename_i h3
  refine objsF_all hP ds _ fun o ho => ?_
  rcases List.mem_append.1 ho with ho | ho
  ·exact h o ho
  ·rw [List.mem_singleton.1 ho]
   exact hP d (Decidable.not_not.1 h1) (Decidable.not_not.1 h3)
theorem objsL_all (s : ByteArray) : ∀ o ∈ (objsL s).1, o.v.good ∧ o.v.size ≤ 4096 ∧ o.rt = true ∧ o.k ≠ hidB := by
 refine objsF_all (fun d h1 h2 => ?_) _ [] (fun o ho => by cases ho)
 obtain ⟨h3, h4, h5, h6⟩ := objOf_ok h2
 rw [h6]
 exact ⟨(V.check_good h3).1, (V.check_good h3).2.1, h4, h5⟩
theorem docsL_len (s : ByteArray) : ((docsL s.data.toList).map toB).length ≤ s.size + 2 := by
 have h1 := docR_len (lnsOf s.data.toList) ([], [])
 have h2 := splT_le 10 s
 rw [← splT_lns, List.length_map] at h1
 unfold docsL
 simp only [List.length_map, List.length_append, List.length_cons, List.length_nil] at h1 ⊢
 rw [splT_lns] at h1
 omega
theorem objsL_len (s : ByteArray) : (objsL s).1.length ≤ s.size + 2 := by
 have h1 := objsF_len ((docsL s.data.toList).map toB) []
 have h2 := docsL_len s
 unfold objsL
 simp only [List.length_nil] at h1
 omega
theorem relOne {σ : Sg} {v : Value} {a : AV} (h : RelP σ v a) : RelPs σ [v] [a] := ⟨rfl, fun j u x hu hx => by
 rcases j with _ | j <;> simp at hu hx
 subst hu hx
 exact h⟩
theorem ac_bool {f : FuncId} {args : List AV} {b : Bool} (h : AC Tryz.prog f args (.bool b)) {σ : Sg} {w : World} {vs : List Value} (hh : Holds σ w) (hr : RelPs σ vs args) (hg : GW w) : Calls Tryz.prog f vs.toArray w fun e w' => e = .returned (.bool b) ∧ Below w.heap.size w w' := by
 refine (h.run σ w vs hh hr hg).mono ?_
 rintro e w' ⟨σ', v, rfl, _, _, hb, hr⟩
 have hr : Rel1 σ' v (.bool b) := hr
 cases hr
 exact ⟨rfl, hb⟩
theorem wpList_index_arr3 {P : Program} {ops : Array Oper} {rest : List Oper} {tmps : Array Value} {df : List Deferred} {w : World} {Q : Exit → Act → World → Prop} {d : Option Tmp} {ty0 : TypeId} {ps : String} {af : Array Edge}
  (p q : Tmp) (ty : TypeId) (cs : Array Value) (i u : Value) (hp : tmps.getD p undef = .agg cs) (hq : tmps.getD q undef = i) (hrun : (Instr.index ty (.agg cs) i).run P w = .ok u w)
  (h : wpList P ops Q rest (({ tmps := tmps, defers := df } : Act).put d u) w) :
  wpList P ops Q ({ dst := d, op := .index ty (.tmp p) (.tmp q), type := ty0, pos := ps, after := af, guard := none } :: rest) { tmps := tmps, defers := df } w := by
 refine wpList_plain rfl fun K hK => ?_
 have e1 : ({ tmps := tmps, defers := df } : Act).eval (.tmp p) = .agg cs := hp
 have e2 : ({ tmps := tmps, defers := df } : Act).eval (.tmp q) = i := hq
 unfold Oper.wp execOp
 simp only [e1, e2, Sem.run_bind, Sem.run_pure, Result.andThen_ok, hrun]
 exact hK _ _ h
theorem run_idx3 (cs : Array Value) (j : Nat) (x : ByteArray) (hj : j < 3) (hu : cs[j]? = some (.string x)) (w : World) : (Instr.index 185 (.agg cs) (.int .i64 j)).run Tryz.prog w = .ok (.string x) w := by
 have h1 : ((j : Int) < 3) := by omega
 have h2 : ¬ 3 ≤ j := by omega
 simp [Instr.index, asIntOf, run_underlying Tryz.underlying185, h1, part, Tryz.isAgg9, Tryz.sizeOf9, hu, h2]
set_option maxHeartbeats 2000000 in
set_option maxRecDepth 100000 in
theorem right_any (a b c : ByteArray) (ha : a.size ≤ 140737488355328) (hb : b.size ≤ 140737488355328) (hc : c.size ≤ 140737488355328) (w : World) (hg : GW w) :
  Calls Tryz.prog 142 #[.agg #[.string a, .string b, .string c]] w fun e w' => e = .returned (.bool (wordOkB a && wordOkB b && wordOkB c)) ∧ Below w.heap.size w w' := by
 obtain ⟨R, hR⟩ : ∃ R, (wordOkB a && wordOkB b && wordOkB c) = R := ⟨_, rfl⟩
 rw [hR]
 have hB : ∀ x : ByteArray, x.size ≤ 140737488355328 → ∀ w', Below w.heap.size w w' → Calls Tryz.prog 51 #[.string x] w' fun e w2 => e = .returned (.bool (bareB x)) ∧ Below w'.heap.size w' w2 := fun x hx w' h => ac_bool (σ := fun _ _ => none) (vs := [.string x]) (bare_a x hx) (fun _ _ _ h => by cases h) (relOne (.str _)) (hg.below h)
 have hC : ∀ x : ByteArray, ∀ w', Below w.heap.size w w' → Calls Tryz.prog 52 #[.string x, .string ⟨#[47]⟩] w' fun e w2 => e = .returned (.bool (!noSl x)) ∧ Below w'.heap.size w' w2 := fun x w' h => ac_bool (σ := fun _ _ => none) (vs := [.string x, .string ⟨#[47]⟩]) (contains47_a x) (fun _ _ _ h => by cases h) ⟨rfl, fun j v u hv hu => by
  rcases j with _ | _ | j <;> simp at hv hu <;> (subst hv hu; exact Rel1.str _)⟩ (hg.below h)
 have hall : ∀ (j : Nat) (x : ByteArray), [a, b, c][j]? = some x → x.size ≤ 140737488355328 := fun j x h => by
  rcases j with _ | _ | _ | j <;> simp at h <;> subst h <;> assumption
 have hcell : ∀ (j : Nat) (x : ByteArray), [a, b, c][j]? = some x → (#[.string a, .string b, .string c] : Array Value)[j]? = some (.string x) := fun j x h => by
  rcases j with _ | _ | _ | j <;> simp at h <;> subst h <;> rfl
 have hbad : ∀ (j : Nat) (x : ByteArray), [a, b, c][j]? = some x → wordOkB x = false → R = false := fun j x h hx => by
  rw [← hR]
  rcases j with _ | _ | _ | j <;> simp at h <;> subst h <;> simp [hx]
 have hgood : (∀ (j : Nat) (x : ByteArray), j < 3 → [a, b, c][j]? = some x → wordOkB x = true) → R = true := fun h => by
  rw [← hR, h 0 a (by omega) rfl, h 1 b (by omega) rfl, h 2 c (by omega) rfl]; rfl
 have HB := Lib.hid hB
 have HC := Lib.hid hC
 have H1 := Lib.hid hall
 have H2 := Lib.hid hcell
 have H3 := Lib.hid hbad
 have H4 := Lib.hid hgood
 clear hB hC hall hcell hbad hgood hg hR
 go_enter Tryz.func142, Tryz.ntmps142
 go_wp2_with fail
 go_loopw [12] (fun i wr => ∃ k : Nat, k ≤ 3 ∧ i = .int .i64 k ∧ Below w.heap.size w wr ∧ Hid (∀ (j : Nat) (x : ByteArray), j < k → [a, b, c][j]? = some x → wordOkB x = true)) (fun i _ => 3 - (intOf i).toNat)
 case atStart => exact ⟨0, by omega, rfl, (Below.refl _ _).alloc (Nat.le_refl _) _, Lib.hid fun j x h => by omega⟩
 case round =>
  obtain ⟨k, hk, rfl, hb0, hT⟩ := hrel
  by_cases hlt : k < 3
  ·obtain ⟨x, hx⟩ : ∃ x, [a, b, c][k]? = some x := ⟨_, List.getElem?_eq_getElem hlt⟩
   have hxz := H1.out k x hx
   have hcx := H2.out k x hx
   have hcB := HB.out x hxz wr hb0
   have hbad : wordOkB x = false → Hid (R = false) := fun h => Lib.hid (H3.out k x hx h)
   have hgo : wordOkB x = true → Hid (∀ (j : Nat) (x : ByteArray), j < k + 1 → [a, b, c][j]? = some x → wordOkB x = true) := fun h => Lib.hid fun j y hj hy => by
    by_cases e : j = k
    ·subst e; rw [hx] at hy; cases hy; exact h
    ·exact hT.out j y (by omega) hy
   unfold wordOkB at hbad hgo
   clear hx hT
   cases h1 : bareB x with
   | false =>
    rw [h1] at hcB hbad
    have HN := hbad (by simp)
    clear hbad hgo
    go_wp2_with (first | refine wpList_index_arr3 11 12 185 _ _ (.string x) rfl rfl (run_idx3 _ k x hlt hcx _) ?_ | (go_at_call 51; refine hcB.mono ?_; rintro e w1 ⟨rfl, b1⟩))
    go_ret
    exact ⟨by rw [HN.out]; rfl, hb0.trans (b1.mono hb0.size)⟩
   | true =>
    rw [h1] at hcB hbad hgo
    have hcC : ∀ w1, Below wr.heap.size wr w1 → Calls Tryz.prog 52 #[.string x, .string ⟨#[47]⟩] w1 fun e w2 => e = .returned (.bool (!noSl x)) ∧ Below w1.heap.size w1 w2 := fun w1 b1 => HC.out x w1 (hb0.trans (b1.mono hb0.size))
    cases h2 : noSl x with
    | false =>
     rw [h2] at hcC hbad
     have HN := hbad (by simp)
     clear hbad hgo
     go_wp2_with (first | refine wpList_index_arr3 11 12 185 _ _ (.string x) rfl rfl (run_idx3 _ k x hlt hcx _) ?_ | (go_at_call 51; refine hcB.mono ?_; rintro e w1 ⟨rfl, b1⟩) | (go_at_call 52; refine (hcC w1 b1).mono ?_; rintro e w2 ⟨rfl, b2⟩))
     go_ret
     exact ⟨by rw [HN.out]; rfl, (hb0.trans (b1.mono hb0.size)).trans (b2.mono (Nat.le_trans hb0.size b1.size))⟩
    | true =>
     rw [h2] at hcC hbad hgo
     by_cases hz : x.size ≤ 64
     ·have HN := hgo (by simpa using hz)
      have hz' : ¬ (64 : Int) < x.size := by omega
      clear hbad hgo
      go_wp2_with (first | refine wpList_index_arr3 11 12 185 _ _ (.string x) rfl rfl (run_idx3 _ k x hlt hcx _) ?_ | (go_at_call 51; refine hcB.mono ?_; rintro e w1 ⟨rfl, b1⟩) | (go_at_call 52; refine (hcC w1 b1).mono ?_; rintro e w2 ⟨rfl, b2⟩))
      go_wp2
      go_roundw
      case rel => exact ⟨k + 1, by omega, by go_num, (hb0.trans (b1.mono hb0.size)).trans (b2.mono (Nat.le_trans hb0.size b1.size)), HN⟩
      case measure => simp [intOf]; omega
     ·have HN := hbad (by simpa using hz)
      have hz' : (64 : Int) < x.size := by omega
      clear hbad hgo
      go_wp2_with (first | refine wpList_index_arr3 11 12 185 _ _ (.string x) rfl rfl (run_idx3 _ k x hlt hcx _) ?_ | (go_at_call 51; refine hcB.mono ?_; rintro e w1 ⟨rfl, b1⟩) | (go_at_call 52; refine (hcC w1 b1).mono ?_; rintro e w2 ⟨rfl, b2⟩))
      go_ret
      exact ⟨by rw [HN.out]; rfl, (hb0.trans (b1.mono hb0.size)).trans (b2.mono (Nat.le_trans hb0.size b1.size))⟩
  ·have hk3 : k = 3 := by omega
   subst hk3
   have HN := Lib.hid (H4.out hT.out)
   clear hT
   go_wp2_with fail
   go_ret
   exact ⟨by rw [HN.out]; rfl, hb0⟩
theorem right_a (a b c : ByteArray) (ha : a.size ≤ 140737488355328) (hb : b.size ≤ 140737488355328) (hc : c.size ≤ 140737488355328) : AC Tryz.prog 142 [.agg [.str a, .str b, .str c]] (.bool (wordOkB a && wordOkB b && wordOkB c)) := by
 refine ⟨by kernel_rfl, fun σ w vs hh hr hg => ?_⟩
 obtain ⟨v, rfl⟩ : ∃ v, vs = [v] := List.length_eq_one_iff.1 hr.1
 obtain ⟨us, rfl, h1⟩ := (hr.2 0 v _ rfl rfl : RelP σ v (.agg [.str a, .str b, .str c]))
 obtain ⟨x, y, z, rfl⟩ : ∃ x y z, us = [x, y, z] := by
  have := h1.1
  rcases us with _ | ⟨x, _ | ⟨y, _ | ⟨z, _ | ⟨u, l⟩⟩⟩⟩ <;> simp at this
  exact ⟨x, y, z, rfl⟩
 cases h1.head
 cases h1.tail.head
 cases h1.tail.tail.head
 refine (right_any a b c ha hb hc w hg).mono ?_
 rintro e w' ⟨rfl, hB⟩
 exact ⟨σ, _, rfl, Ext.refl _ _, hh.on hB, hB, .bool _⟩
end Go.Proofs.YtbfiopoefbbknaaGreatDoor
namespace Go.Proofs.YtbfiopoefbbknaaGreatDoor
set_option maxRecDepth 100000
def b_ref01_Get : ACode :=
 .seq (gQ [gP 2 0, ⟨gO, .alloc 4 gZ⟩, ⟨gO, .mov 5 (.k (.bool false))⟩]) (.seq (.seq (gQ [gJ 6 0]) (.block 0 (.loop (.seq (.seq (gQ [gM 7 6, gF 8 5 2, gL 9 8, gH 10 false 9, gV 11 .lss 7 10]) (.cond (.s 11) .skip (.exit 0))) (.seq (.block 1 (.seq (gQ [gF 14 5 2, gL 15 14, gM 16 6, gE 17 7 15 16, gF 18 0 17, gL 19 18, gM 20 1, gV 21 .eql 19 20]) (.cond (.s 21) (.seq (gQ [gF 22 5 2, gL 23 22, gM 24 6, gE 25 7 23 24, gF 26 1 25, gA 27 6 26, gT 6 4 27, ⟨gO, .mov 5 (.k (.bool true))⟩]) .ret) .skip))) (.reg [gM 12 6, gU 13 .add 12 1, gM 6 13])))))) (.seq (gQ [⟨gO, .build 28 gZ []⟩, gT 6 4 28, ⟨gO, .mov 5 (.k (.bool false))⟩]) .ret))
def a_ref01_Get : AFn := ⟨2, 29, b_ref01_Get, [.cell 4 6 true, .tmp 5]⟩
theorem a_ref01_Get_ok : fnAF Tryz.prog [] Tryz.f43 = some a_ref01_Get := by kernel_rfl
theorem a_ref01_Get_cb : callable Tryz.prog 43 = true := by kernel_rfl
end Go.Proofs.YtbfiopoefbbknaaGreatDoor
namespace Go.Proofs.YtbfiopoefbbknaaGreatDoor
open Go.RowKit
theorem refGet_a (v : V) (key : ByteArray) (hsz : v.size ≤ 2000000000000) : AC Tryz.prog 43 [(vA (v)), .str key] (getAV (mfind key v.m)) := by
 have hve := v.size_eq
 have hlm := len_le_sizeM v.m
 refine kE Tryz.func43 a_ref01_Get_ok a_ref01_Get_cb fun E hE => ?_
 refine kW ?_
 refine AK.loopI (fun k : Nat => (frOf [(1, .str key), (2, .ptr 2 0), (4, .ptr 4 0), (6, .int .i64 k)], ⟨boxOf [(2, (vC (v)), false), (4, [.int .i64 0, .bool false, .int .i64 0, .str ⟨#[]⟩, .lst .nil 6 [], .lst .nil 7 []], false)], fun _ => 0⟩)) (fun k => k ≤ v.m.length ∧ ∀ j p, j < k → v.m[j]? = some p → p.1 ≠ key) (fun k => v.m.length - k) 0 ⟨by omega, fun j p h => by omega⟩ (Weak.intro ⟨kI, kI, kI, kI, trivial⟩ ⟨kJ, kJ, trivial⟩ rfl rfl) fun k ⟨hk, hr⟩ => ?_
 refine kW ?_
 refine kC (fun hb => ?_) fun hb => ?_
 ·have hlt : k < v.m.length := by simpa [rowsM_len] using hb
  obtain ⟨⟨y, x⟩, hg⟩ : ∃ x, v.m[k]? = some x := ⟨_, List.getElem?_eq_getElem hlt⟩
  refine kW ?_
  refine kP [.c (.str y :: (vC (x)))] ?_ ?_
  ·((repeat' apply And.intro) <;> first | exact kD | (intro hgd; refine ⟨?_, kG⟩; (repeat' apply And.intro) <;> first | exact kD | skip) | skip)
   ·exact rowsM_at hg
  refine kC (fun hb => ?_) fun hb => ?_
  ·have he : y = key := by simpa using hb
   subst he
   refine kW ?_
   refine kP [.c (.str y :: (vC (x)))] ?_ ?_
   ·((repeat' apply And.intro) <;> first | exact kD | (intro hgd; refine ⟨?_, kG⟩; (repeat' apply And.intro) <;> first | exact kD | skip) | skip)
    ·exact rowsM_at hg
   refine kW ?_
   refine AK.ret ⟨_, rfl, ?_⟩
   rw [mfind_at hr hg]
   rfl
  ·have he : y ≠ key := by simpa using hb
   refine kW ?_
   exact AK.lp ⟨k + 1, ⟨by omega, ne_more hr hg he⟩, Weak.intro ⟨kI, kI, kI, kU, trivial⟩ ⟨kJ, kJ, trivial⟩ rfl rfl, by omega⟩
 ·have hlt : k = v.m.length := by have : v.m.length ≤ k := by simpa [rowsM_len] using hb
                                  omega
  subst hlt
  refine AK.exit rfl ?_
  refine kW ?_
  refine AK.ret ⟨_, rfl, ?_⟩
  rw [mfind_none hr]
  rfl
theorem same_first {a b : V} : (!decide (a.kind = b.kind) || (a.b != b.b) || !decide (a.n = b.n) || !decide (a.s = b.s) || !decide (((rowsV a.l).length : Int) = (rowsV b.l).length) || !decide (((rowsM a.m).length : Int) = (rowsM b.m).length)) = true → a ≠ b := by
 rintro h rfl
 simp at h
theorem same_rest {a b : V} (h : (!decide (a.kind = b.kind) || (a.b != b.b) || !decide (a.n = b.n) || !decide (a.s = b.s) || !decide (((rowsV a.l).length : Int) = (rowsV b.l).length) || !decide (((rowsM a.m).length : Int) = (rowsM b.m).length)) = false) :
  a.kind = b.kind ∧ a.b = b.b ∧ a.n = b.n ∧ a.s = b.s ∧ a.l.length = b.l.length ∧ a.m.length = b.m.length := by
 simp only [rowsV_len, rowsM_len, Bool.or_eq_false_iff, Bool.not_eq_false', decide_eq_true_eq, bne_eq_false_iff_eq] at h
 obtain ⟨⟨⟨⟨⟨h1, h2⟩, h3⟩, h4⟩, h5⟩, h6⟩ := h
 exact ⟨h1, h2, h3, h4, by omega, by omega⟩
theorem same_no {a b : V} (h : a ≠ b) : AV.bool false = .bool (a.sameB b) := by rw [V.sameB_false.2 h]
theorem take_more {α : Type} {l m : List α} {k : Nat} {x y : α} (h : l.take k = m.take k) (hx : l[k]? = some x) (hy : m[k]? = some y) (e : x = y) : l.take (k + 1) = m.take (k + 1) := by rw [take_snoc hx, take_snoc hy, h, e]
set_option maxRecDepth 4000 in
theorem refSame_a (n : Nat) : ∀ a b : V, a.size ≤ n → a.size ≤ 2000000000000 → AC Tryz.prog 31 [(vA (a)), (vA (b))] (.bool (a.sameB b)) := by
 induction n with
 | zero => intro v _ h; have := v.size_pos; omega
 | succ n ih =>
  intro a b hn hsz
  have hve := a.size_eq
  have hll := len_le_sizeL a.l
  have hlm := len_le_sizeM a.m
  refine kE Tryz.func31 a_ref01_Same_ok a_ref01_Same_cb fun E hE => ?_
  refine kW ?_
  refine kQ [] ?_
  refine kC (fun hb => ?_) fun hb => ?_
  ·refine kW ?_
   refine AK.ret ⟨_, rfl, ?_⟩
   exact same_no (same_first hb)
  obtain ⟨e1, e2, e3, e4, e5, e6⟩ := same_rest hb
  clear hb
  refine kW ?_
  refine AK.loopI (fun k : Nat => (frOf [(2, .ptr 2 0), (3, .ptr 3 0), (5, .int .i64 k)], ⟨boxOf [(2, (vC (a)), false), (3, (vC (b)), false)], fun _ => 0⟩)) (fun k => k ≤ a.l.length ∧ a.l.take k = b.l.take k) (fun k => a.l.length - k) 0 ⟨by omega, rfl⟩ (Weak.intro ⟨kI, kI, kI, trivial⟩ ⟨kJ, kJ, trivial⟩ rfl rfl) fun k ⟨hk, hr⟩ => ?_
  refine kW ?_
  refine kC (fun hb => ?_) fun hb => ?_
  ·have hlt : k < a.l.length := by simpa [rowsV_len] using hb
   obtain ⟨x, hg⟩ : ∃ x, a.l[k]? = some x := ⟨_, List.getElem?_eq_getElem hlt⟩
   obtain ⟨y, hy⟩ : ∃ x, b.l[k]? = some x := ⟨_, List.getElem?_eq_getElem (by omega)⟩
   have hx := sizeL_take hg
   have hx2 := sizeL_take_le a.l (k + 1)
   refine kW ?_
   refine kP [.c (vC (x)), .c (vC (y)), .v (.bool (x.sameB y))] ?_ ?_
   ·((repeat' apply And.intro) <;> first | exact kD | (intro hgd; refine ⟨?_, kG⟩; (repeat' apply And.intro) <;> first | exact kD | skip) | skip)
    ·exact rowsV_at hg
    ·exact rowsV_at hy
    ·exact ih x y (by omega) (by omega)
   refine kC (fun hb => ?_) fun hb => ?_
   ·have he : x ≠ y := V.sameB_false.1 (by simpa using hb)
    refine kW ?_
    refine AK.ret ⟨_, rfl, ?_⟩
    exact same_no (by rintro rfl; rw [hg] at hy; exact he (Option.some.inj hy))
   ·have he : x = y := V.sameB_true.1 (by simpa using hb)
    refine kW ?_
    exact AK.lp ⟨k + 1, ⟨by omega, take_more hr hg hy he⟩, Weak.intro ⟨kI, kI, kU, trivial⟩ ⟨kJ, kJ, trivial⟩ rfl rfl, by omega⟩
  ·have hlt : k = a.l.length := by have : a.l.length ≤ k := by simpa [rowsV_len] using hb
                                   omega
   subst hlt
   have e7 : a.l = b.l := by rw [List.take_length, e5, List.take_length] at hr; exact hr
   clear hr
   refine AK.exit rfl ?_
   refine kW ?_
   refine AK.loopI (fun k : Nat => (frOf [(2, .ptr 2 0), (3, .ptr 3 0), (6, .int .i64 k)], ⟨boxOf [(2, (vC (a)), false), (3, (vC (b)), false)], fun _ => 0⟩)) (fun k => k ≤ a.m.length ∧ a.m.take k = b.m.take k) (fun k => a.m.length - k) 0 ⟨by omega, rfl⟩ (Weak.intro ⟨kI, kI, kI, trivial⟩ ⟨kJ, kJ, trivial⟩ rfl rfl) fun k ⟨hk, hr⟩ => ?_
   refine kW ?_
   refine kC (fun hb => ?_) fun hb => ?_
   ·have hlt : k < a.m.length := by simpa [rowsM_len] using hb
    obtain ⟨⟨p, x⟩, hg⟩ : ∃ x, a.m[k]? = some x := ⟨_, List.getElem?_eq_getElem hlt⟩
    obtain ⟨⟨q, y⟩, hy⟩ : ∃ x, b.m[k]? = some x := ⟨_, List.getElem?_eq_getElem (by omega)⟩
    have hx := sizeM_take hg
    have hx2 := sizeM_take_le a.m (k + 1)
    refine kW ?_
    refine kP [.c (.str p :: (vC (x))), .c (.str q :: (vC (y))), .c (.str p :: (vC (x))), .c (.str q :: (vC (y))), .v (.bool (x.sameB y))] ?_ ?_
    ·((repeat' apply And.intro) <;> first | exact kD | (intro hgd; refine ⟨?_, kG⟩; (repeat' apply And.intro) <;> first | exact kD | skip) | skip)
     ·exact rowsM_at hg
     ·exact rowsM_at hy
     ·exact rowsM_at hg
     ·exact rowsM_at hy
     ·exact ih x y (by omega) (by omega)
    refine kC (fun hb => ?_) fun hb => ?_
    ·have he : ¬ (p = q ∧ x = y) := by
      rintro ⟨rfl, rfl⟩
      rw [V.sameB_true.2 rfl] at hb
      simp at hb
     refine kW ?_
     refine AK.ret ⟨_, rfl, ?_⟩
     exact same_no (by rintro rfl; rw [hg] at hy; cases hy; exact he ⟨rfl, rfl⟩)
    ·have he : p = q ∧ x = y := by
      simp only [Bool.or_eq_false_iff, Bool.not_eq_false', decide_eq_true_eq] at hb
      exact ⟨hb.1, V.sameB_true.1 hb.2⟩
     refine kW ?_
     exact AK.lp ⟨k + 1, ⟨by omega, take_more hr hg hy (by rw [he.1, he.2])⟩, Weak.intro ⟨kI, kI, kU, trivial⟩ ⟨kJ, kJ, trivial⟩ rfl rfl, by omega⟩
   ·have hlt : k = a.m.length := by have : a.m.length ≤ k := by simpa [rowsM_len] using hb
                                    omega
    subst hlt
    have e8 : a.m = b.m := by rw [List.take_length, e6, List.take_length] at hr; exact hr
    refine AK.exit rfl ?_
    refine kW ?_
    refine AK.ret ⟨_, rfl, ?_⟩
    exact congrArg AV.bool (V.sameB_true.2 (V.ext_iff'.2 ⟨e1, e2, e3, e4, e7, e8⟩)).symm
theorem rowsT_flat (l : List ByteArray) : (rowsT l).flatten = l.map AV.str := by
 induction l with
 | nil => rfl
 | cons s l ih => rw [rowsT, List.map_cons, List.flatten_cons]; show [AV.str s] ++ (rowsT l).flatten = _; rw [ih]; rfl
theorem joinT_a (bs : List Bs) (hN : bs.length ≤ 1000000000) (hlen : (joinC 10 bs).length ≤ 140737488355328) :
  AC Tryz.prog 98 [.lst .any 1 (rowsT (bs.map toB)), .str ⟨#[10]⟩] (.str (toB (joinC 10 bs))) := by
 refine ⟨by kernel_rfl, fun σ w vs hh hr hg => ?_⟩
 have hl : vs.length = 2 := hr.1
 obtain ⟨v1, v2, rfl⟩ : ∃ a b, vs = [a, b] := by
  rcases vs with _ | ⟨a, _ | ⟨b, _ | ⟨d, l⟩⟩⟩ <;> simp at hl
  exact ⟨a, b, rfl⟩
 have h1 : Rel1 σ v1 (.lst .any 1 (rowsT (bs.map toB))) := hr.2 0 v1 _ rfl rfl
 have h2 : Rel1 σ v2 (.str ⟨#[10]⟩) := hr.2 1 v2 _ rfl rfl
 cases h2
 obtain ⟨A, cap, b, o, news, rfl, hcap, hA, _, hnl, hrel, hcell⟩ := lst_cells h1
 have hll : (rowsT (bs.map toB)).length = bs.length := by rw [rowsT_len, List.length_map]
 have hmm : (bs.map toB).map (fun x => x.data.toList) = bs := by rw [List.map_map]; exact (List.map_congr_left fun x _ => toB_list x).trans (List.map_id _)
 cases hb : bs with
 | nil =>
  subst hb
  refine (Tryz.strings_Join_none A cap ⟨#[10]⟩ w).mono ?_
  rintro e w' ⟨rfl, rfl⟩
  exact ⟨σ, _, rfl, Ext.refl _ _, hh, Below.refl _ _, .str _⟩
 | cons y bs' =>
  rw [← hb]
  rw [hll] at hcap hA hnl
  have hne : 0 < bs.length := by rw [hb]; simp
  have := hA hne
  subst this
  rw [rowsT_flat] at hrel
  have hcells : ∀ (j : Nat) x, (bs.map toB)[j]? = some x → w.cell? ⟨b, o + j, none⟩ = some (.string x) := fun j x hx => by
   have hj : j < news.length := by have := (List.getElem?_eq_some_iff.1 hx).1; rw [List.length_map] at this; omega
   have h3 := List.getElem?_eq_getElem hj
   have h4 : Rel1 σ news[j] (.str x) := hrel.2 j _ _ h3 (by rw [List.getElem?_map, hx]; rfl)
   generalize news[j] = u at h3 h4
   cases h4
   exact hh _ _ _ (hcell j _ h3)
  obtain ⟨x, hx⟩ : ∃ x, (bs.map toB)[0]? = some x := ⟨_, List.getElem?_eq_getElem (by simpa using hne)⟩
  have hbk := World.block_lt_of_cell? w _ (hcells 0 x hx)
  have hj : Lib.join ((bs.map toB).map (·.data.toList)) (⟨#[10]⟩ : ByteArray).data.toList = joinC 10 bs := by rw [hmm]; exact join_lib bs
  have hJ := Tryz.strings_Join b o cap (bs.map toB) ⟨#[10]⟩ w hcells hbk (by rw [List.length_map]; omega) (by rw [List.length_map]; omega) (by rw [hj]; omega)
  rw [hj, List.length_map] at hJ
  rw [hll]
  refine hJ.mono ?_
  rintro e w' ⟨rfl, hb⟩
  exact ⟨σ, _, rfl, Ext.refl _ _, fun b q v hv => (hb.cell (p := ⟨b, q, none⟩) (World.block_lt_of_cell? w _ (hh _ _ _ hv))).trans (hh _ _ _ hv), hb, .str _⟩
theorem dash_eq (x : Bs) : decide (toB (tr x) = ⟨#[45, 45, 45]⟩) = dash3 x := by
 have e : (⟨#[45, 45, 45]⟩ : ByteArray) = toB [45, 45, 45] := rfl
 rw [e]
 unfold dash3
 by_cases h : tr x = [45, 45, 45]
 ·rw [h]; rfl
 ·rw [decide_eq_false (fun h2 => h (toB_inj.1 h2))]
  exact (beq_eq_false_iff_ne.2 h).symm
def rowsJ (l : List (List Bs)) : List (List AV) := rowsT ((l.map (joinC 10)).map toB)
theorem rowsJ_len (l : List (List Bs)) : (rowsJ l).length = l.length := by rw [rowsJ, rowsT_len, List.length_map, List.length_map]
theorem rowsJ_snoc (l : List (List Bs)) (b : List Bs) : rowsJ l ++ [[.str (toB (joinC 10 b))]] = rowsJ (l ++ [b]) := by simp [rowsJ, rowsT]
theorem rowsB_snoc (b : List Bs) (x : Bs) : rowsT (b.map toB) ++ [[.str (toB x)]] = rowsT ((b ++ [x]).map toB) := by simp [rowsT]
theorem docs_a (s : ByteArray) (hs : s.size ≤ 1000000) : AC Tryz.prog 55 [.str s] (.lst .any 1 (rowsT ((docsL s.data.toList).map toB))) := by
 have hsp := splitT_a 10 s hs
 have hle := splT_le 10 s
 have hmem := fun x (h : x ∈ splT 10 s) => splT_mem h
 have hP := splT_lns s
 unfold docsL
 rw [← hP]
 clear hP
 generalize splT 10 s = ps at *
 refine kE Tryz.func55 a_yaml_Docs_ok a_yaml_Docs_cb fun E hE => ?_
 refine kW ?_
 refine kQ [.v (.lst .any 1 (rowsT ps))] ?_
 refine kW ?_
 refine AK.loopI (fun i : Nat × (Nat → Nat) => (frOf [(3, .lst (.own 21 (i.2 21)) 1 (rowsJ (docR ([], []) ((ps.take i.1).map fun x => x.data.toList)).1)), (4, .lst (.own 25 (i.2 25)) 1 (rowsT ((docR ([], []) ((ps.take i.1).map fun x => x.data.toList)).2.map toB))), (8, .lst .any 1 (rowsT ps)), (9, .int .i64 (rowsT ps).length), (10, .int .i64 i.1)], ⟨boxOf [], i.2⟩))
  (fun i => i.1 ≤ ps.length) (fun i => ps.length - i.1) (0, fun _ => 0) (Nat.zero_le _) (Weak.intro ⟨⟨_, rfl, .one (.own _ _ _ _)⟩, ⟨_, rfl, .one (.own _ _ _ _)⟩, kI, kI, kI, trivial⟩ trivial rfl rfl) fun ⟨k, r⟩ hk => ?_
 dsimp only at hk
 have hX := docR_len ((ps.take k).map fun x => x.data.toList) ([], [])
 rw [List.length_map, List.length_take] at hX
 have hY := (docR_mem ((ps.take k).map fun x => x.data.toList) ([], []) (fun x => x.length ≤ 1000000) (fun x hx => by
  obtain ⟨y, hy, rfl⟩ := List.mem_map.1 hx
  have := hmem y (List.mem_of_mem_take hy)
  show y.size ≤ _
  omega) (by simp) (by simp)).1
 obtain ⟨a, b, hab⟩ : ∃ a b, docR ([], []) ((ps.take k).map fun x => x.data.toList) = (a, b) := ⟨_, _, rfl⟩
 rw [hab] at hX hY ⊢
 simp only [List.length_nil] at hX hY ⊢
 have hbl : b.length ≤ 1000001 := by omega
 have hjl := joinC_len b hY
 have hJ := joinT_a b (by omega) (by omega)
 refine kW ?_
 refine kC (fun hb => ?_) fun hb => ?_
 ·have hlt : k < ps.length := by simpa [rowsT_len] using hb
  obtain ⟨p, hg⟩ : ∃ x, ps[k]? = some x := ⟨_, List.getElem?_eq_getElem hlt⟩
  have hpz := hmem p (List.mem_of_getElem? hg)
  have hst : docR ([], []) ((ps.take (k + 1)).map fun x => x.data.toList) = dstep (a, b) p.data.toList := by
   rw [List.take_add_one, hg, List.map_append, docR_app, hab]; rfl
  have htr := tr_a p.data.toList (by show p.size ≤ _; omega)
  rw [toB_eta] at htr
  have hd := dash_eq p.data.toList
  have hpe : toB p.data.toList = p := toB_eta p
  refine kW ?_
  refine kP [.c [.str p]] ?_ ?_
  ·((repeat' apply And.intro) <;> first | exact kD | (intro hgd; refine ⟨?_, kG⟩; (repeat' apply And.intro) <;> first | exact kD | skip) | skip)
   ·exact rowsT_at hg
  refine kW ?_
  refine kQ [.v (.str (toB (tr p.data.toList)))] ?_
  refine kW ?_
  rw [hd]
  unfold dstep at hst
  cases hD : dash3 p.data.toList with
  | true =>
   rw [hD, if_pos rfl] at hst
   refine kC (fun hb => ?_) fun hb => ?_
   ·refine kW ?_
    refine kP [.v (.str (toB (joinC 10 b)))] ?_ ?_
    ·((repeat' apply And.intro) <;> first | exact kD | (intro hgd; refine ⟨?_, kG⟩; (repeat' apply And.intro) <;> first | exact kD | skip) | skip)
     all_goals simp only [rowsJ_len, List.length_cons, List.length_nil]
     all_goals omega
    refine kW ?_
    refine AK.exit rfl ?_
    refine kW ?_
    refine AK.lp ⟨(k + 1, _), by dsimp only; omega, Weak.intro ⟨⟨_, rfl, .of_eq ?_⟩, ⟨_, rfl, .one ?_⟩, kI, kI, kU, trivial⟩ trivial rfl rfl, by dsimp only; omega⟩
    ·dsimp only
     rw [hst]
     simp [appTag, appRow, upd_same]
     exact rowsJ_snoc a b
    ·dsimp only
     rw [hst]
     exact .own _ _ _ _
   ·simp at hb
  | false =>
   rw [hD, if_neg (by simp)] at hst
   refine kC (fun hb => ?_) fun hb => ?_
   ·simp at hb
   ·refine kW ?_
    refine kP [] ?_ ?_
    ·((repeat' apply And.intro) <;> first | exact kD | (intro hgd; refine ⟨?_, kG⟩; (repeat' apply And.intro) <;> first | exact kD | skip) | skip)
     all_goals simp only [rowsT_len, List.length_map, List.length_cons, List.length_nil]
     all_goals omega
    refine kW ?_
    refine AK.lp ⟨(k + 1, _), by dsimp only; omega, Weak.intro ⟨⟨_, rfl, .of_eq ?_⟩, ⟨_, rfl, .of_eq ?_⟩, kI, kI, kU, trivial⟩ trivial rfl rfl, by dsimp only; omega⟩
    ·dsimp only
     rw [hst]
     rfl
    ·dsimp only
     rw [hst, ← rowsB_snoc, hpe]
     rfl
 ·have hlt : k = ps.length := by have : ps.length ≤ k := by simpa [rowsT_len] using hb
                                 omega
  subst hlt
  rw [List.take_length] at hab
  refine AK.exit rfl ?_
  refine kW ?_
  refine kP [.v (.str (toB (joinC 10 b)))] ?_ ?_
  ·((repeat' apply And.intro) <;> first | exact kD | (intro hgd; refine ⟨?_, kG⟩; (repeat' apply And.intro) <;> first | exact kD | skip) | skip)
   all_goals simp only [rowsJ_len, List.length_cons, List.length_nil]
   all_goals omega
  refine kW ?_
  refine AK.ret ⟨_, rfl, ?_⟩
  rw [hab]
  exact congrArg (AV.lst .any 1) (rowsJ_snoc a b)
theorem get_a {v : V} (hg : v.good) (hz : v.size ≤ 1000000) (key : ByteArray) : AC Tryz.prog 36 [(vA (v)), .str key] (.tup [(vA ((mv key v))), .bool (mfind key v.m).isSome]) := treeGet_o v key hg.ord (by omega)
theorem rget_a {v : V} (hz : v.size ≤ 1000000) (key : ByteArray) : AC Tryz.prog 43 [(vA (v)), .str key] (.tup [(vA ((mv key v))), .bool (mfind key v.m).isSome]) := by
 have h := refGet_a v key (by omega)
 unfold mv
 cases hf : mfind key v.m <;> (rw [hf] at h; exact h)
abbrev objAV (r : Ob × Int) : AV := .tup [.agg (obC r.1), .int .i64 r.2]
theorem of_a (v : V) (hsb : v.sb) (hsz : v.size ≤ 1000000) : AC Tryz.prog 96 [(vA (v))] (objAV (objOf v)) := by
 have hC := treeCheck_a v hsb (by omega)
 unfold objOf
 by_cases hc : v.checkC = 0
 ·rw [if_neg (fun h => h hc)]
  rw [hc] at hC
  have hg := (V.check_good hc).1
  obtain ⟨g1, z1, s1⟩ := mv_good hg kMeta
  obtain ⟨g2, z2, s2⟩ := mv_good hg kKind
  obtain ⟨g3, z3, s3⟩ := mv_good g1 kName
  obtain ⟨g4, z4, s4⟩ := mv_good g1 kNs
  have h1 := get_a hg hsz kKind
  have h2 := get_a hg hsz kMeta
  have h3 := get_a g1 (by omega) kName
  have h4 := get_a g1 (by omega) kNs
  have h5 := treeStr_a defB
  have hcl := clone_ok v (by omega)
  have hR := right_a (obOf v).k (obOf v).s (obOf v).n (by show (mv kKind v).s.size ≤ _; omega) (by
   unfold obOf
   dsimp only
   split
   ·omega
   ·decide) (by show (mv kName (mv kMeta v)).s.size ≤ _; omega)
  refine kE Tryz.func96 a_object_Of_ok a_object_Of_cb fun E hE => ?_
  refine kW ?_
  refine kQ [.v (.int .i64 0)] ?_
  refine kW ?_
  refine kC (fun hb => ?_) fun hb => ?_
  ·cases hb
  refine kW ?_
  refine kQ [.v (.tup [(vA ((mv kKind v))), .bool (mfind kKind v.m).isSome])] ?_
  refine kW ?_
  refine kQ [.v (.tup [(vA ((mv kMeta v))), .bool (mfind kMeta v.m).isSome])] ?_
  refine kW ?_
  refine kQ [.v (.tup [(vA ((mv kName (mv kMeta v)))), .bool (mfind kName (mv kMeta v).m).isSome])] ?_
  refine kW ?_
  refine kQ [.v (.tup [(vA ((mv kNs (mv kMeta v)))), .bool (mfind kNs (mv kMeta v).m).isSome])] ?_
  refine kW ?_
  cases hns : (mfind kNs (mv kMeta v).m).isSome with
  | false =>
   refine kC (fun hb => ?_) fun hb => ?_
   ·refine kW ?_
    refine kQ [.v ((vA ((V.str defB))))] ?_
    have e : obOf v = ⟨(mv kKind v).s, defB, (mv kName (mv kMeta v)).s, v⟩ := by unfold obOf; rw [hns]; rfl
    rw [e] at hR ⊢
    dsimp only at hR
    generalize hrt : (Ob.mk (mv kKind v).s (defB) (mv kName (mv kMeta v)).s v).rt = rt
    have hrt : (wordOkB (mv kKind v).s && wordOkB (defB) && wordOkB (mv kName (mv kMeta v)).s) = rt := hrt
    rw [hrt] at hR
    refine kW ?_
    refine kQ [.v (.bool rt)] ?_
    refine kC (fun hb => ?_) fun hb => ?_
    ·rw [if_pos (show (!rt || decide ((mv kKind v).s = hidB)) = true from hb)]
     refine kW ?_
     refine AK.ret ⟨_, rfl, ?_⟩
     rfl
    ·rw [if_neg (show ¬ (!rt || decide ((mv kKind v).s = hidB)) = true from fun h => by rw [show (!rt || decide ((mv kKind v).s = hidB)) = false from hb] at h; cases h)]
     refine kW ?_
     refine kQ [.v ((vA (v)))] ?_
     refine kW ?_
     refine AK.ret ⟨_, rfl, ?_⟩
     rfl
   ·cases hb
  | true =>
   refine kC (fun hb => ?_) fun hb => ?_
   ·cases hb
   ·skip
    have e : obOf v = ⟨(mv kKind v).s, (mv kNs (mv kMeta v)).s, (mv kName (mv kMeta v)).s, v⟩ := by unfold obOf; rw [hns]; rfl
    rw [e] at hR ⊢
    dsimp only at hR
    generalize hrt : (Ob.mk (mv kKind v).s ((mv kNs (mv kMeta v)).s) (mv kName (mv kMeta v)).s v).rt = rt
    have hrt : (wordOkB (mv kKind v).s && wordOkB ((mv kNs (mv kMeta v)).s) && wordOkB (mv kName (mv kMeta v)).s) = rt := hrt
    rw [hrt] at hR
    refine kW ?_
    refine kQ [.v (.bool rt)] ?_
    refine kC (fun hb => ?_) fun hb => ?_
    ·rw [if_pos (show (!rt || decide ((mv kKind v).s = hidB)) = true from hb)]
     refine kW ?_
     refine AK.ret ⟨_, rfl, ?_⟩
     rfl
    ·rw [if_neg (show ¬ (!rt || decide ((mv kKind v).s = hidB)) = true from fun h => by rw [show (!rt || decide ((mv kKind v).s = hidB)) = false from hb] at h; cases h)]
     refine kW ?_
     refine kQ [.v ((vA (v)))] ?_
     refine kW ?_
     refine AK.ret ⟨_, rfl, ?_⟩
     rfl
 ·rw [if_pos hc]
  refine kE Tryz.func96 a_object_Of_ok a_object_Of_cb fun E hE => ?_
  refine kW ?_
  refine kQ [.v (.int .i64 v.checkC)] ?_
  refine kW ?_
  refine kC (fun hb => ?_) fun hb => ?_
  ·refine kW ?_
   refine AK.ret ⟨_, rfl, ?_⟩
   rfl
  ·simp [hc] at hb
theorem rof_a (v : V) (hsb : v.sb) (hsz : v.size ≤ 1000000) : AC Tryz.prog 56 [(vA (v))] (objAV (objOf v)) := by
 have hC := refCheck_a v hsb (by omega)
 unfold objOf
 by_cases hc : v.checkC = 0
 ·rw [if_neg (fun h => h hc)]
  rw [hc] at hC
  have hg := (V.check_good hc).1
  obtain ⟨g1, z1, s1⟩ := mv_good hg kMeta
  obtain ⟨g2, z2, s2⟩ := mv_good hg kKind
  obtain ⟨g3, z3, s3⟩ := mv_good g1 kName
  obtain ⟨g4, z4, s4⟩ := mv_good g1 kNs
  have h1 := rget_a hsz kKind
  have h2 := rget_a hsz kMeta
  have h3 := rget_a (v := mv kMeta v) (by omega) kName
  have h4 := rget_a (v := mv kMeta v) (by omega) kNs
  have hR := refRight_a (obOf v).k (obOf v).s (obOf v).n (by show (mv kKind v).s.size ≤ _; omega) (by
   unfold obOf
   dsimp only
   split
   ·omega
   ·decide) (by show (mv kName (mv kMeta v)).s.size ≤ _; omega)
  refine kE Tryz.func56 a_ref12_Of_ok a_ref12_Of_cb fun E hE => ?_
  refine kW ?_
  refine kQ [.v (.int .i64 0)] ?_
  refine kW ?_
  refine kC (fun hb => ?_) fun hb => ?_
  ·cases hb
  refine kW ?_
  refine kQ [.v (.tup [(vA ((mv kKind v))), .bool (mfind kKind v.m).isSome])] ?_
  refine kW ?_
  refine kQ [.v (.tup [(vA ((mv kMeta v))), .bool (mfind kMeta v.m).isSome])] ?_
  refine kW ?_
  refine kQ [.v (.tup [(vA ((mv kName (mv kMeta v)))), .bool (mfind kName (mv kMeta v).m).isSome])] ?_
  refine kW ?_
  refine kQ [.v (.tup [(vA ((mv kNs (mv kMeta v)))), .bool (mfind kNs (mv kMeta v).m).isSome])] ?_
  refine kW ?_
  cases hns : (mfind kNs (mv kMeta v).m).isSome with
  | false =>
   refine kC (fun hb => ?_) fun hb => ?_
   ·refine kW ?_
    have e : obOf v = ⟨(mv kKind v).s, defB, (mv kName (mv kMeta v)).s, v⟩ := by unfold obOf; rw [hns]; rfl
    rw [e] at hR ⊢
    dsimp only at hR
    generalize hrt : (Ob.mk (mv kKind v).s (defB) (mv kName (mv kMeta v)).s v).rt = rt
    have hrt : (wordOkB (mv kKind v).s && wordOkB (defB) && wordOkB (mv kName (mv kMeta v)).s) = rt := hrt
    rw [hrt] at hR
    refine kW ?_
    refine kQ [.v (.bool rt)] ?_
    refine kC (fun hb => ?_) fun hb => ?_
    ·rw [if_pos (show (!rt || decide ((mv kKind v).s = hidB)) = true from hb)]
     refine kW ?_
     refine AK.ret ⟨_, rfl, ?_⟩
     rfl
    ·rw [if_neg (show ¬ (!rt || decide ((mv kKind v).s = hidB)) = true from fun h => by rw [show (!rt || decide ((mv kKind v).s = hidB)) = false from hb] at h; cases h)]
     refine kW ?_
     refine AK.ret ⟨_, rfl, ?_⟩
     rfl
   ·cases hb
  | true =>
   refine kC (fun hb => ?_) fun hb => ?_
   ·cases hb
   ·skip
    have e : obOf v = ⟨(mv kKind v).s, (mv kNs (mv kMeta v)).s, (mv kName (mv kMeta v)).s, v⟩ := by unfold obOf; rw [hns]; rfl
    rw [e] at hR ⊢
    dsimp only at hR
    generalize hrt : (Ob.mk (mv kKind v).s ((mv kNs (mv kMeta v)).s) (mv kName (mv kMeta v)).s v).rt = rt
    have hrt : (wordOkB (mv kKind v).s && wordOkB ((mv kNs (mv kMeta v)).s) && wordOkB (mv kName (mv kMeta v)).s) = rt := hrt
    rw [hrt] at hR
    refine kW ?_
    refine kQ [.v (.bool rt)] ?_
    refine kC (fun hb => ?_) fun hb => ?_
    ·rw [if_pos (show (!rt || decide ((mv kKind v).s = hidB)) = true from hb)]
     refine kW ?_
     refine AK.ret ⟨_, rfl, ?_⟩
     rfl
    ·rw [if_neg (show ¬ (!rt || decide ((mv kKind v).s = hidB)) = true from fun h => by rw [show (!rt || decide ((mv kKind v).s = hidB)) = false from hb] at h; cases h)]
     refine kW ?_
     refine AK.ret ⟨_, rfl, ?_⟩
     rfl
 ·rw [if_pos hc]
  refine kE Tryz.func56 a_ref12_Of_ok a_ref12_Of_cb fun E hE => ?_
  refine kW ?_
  refine kQ [.v (.int .i64 v.checkC)] ?_
  refine kW ?_
  refine kC (fun hb => ?_) fun hb => ?_
  ·refine kW ?_
   refine AK.ret ⟨_, rfl, ?_⟩
   rfl
  ·simp [hc] at hb
theorem hook_a (o : Ob) (hg : o.v.good) (hz : o.v.size ≤ 1000000) : AC Tryz.prog 97 [.agg (obC o)] (.str (hookOf o)) := by
 obtain ⟨g1, z1, _⟩ := mv_good hg kMeta
 have h1 := get_a hg hz kMeta
 have h2 := get_a g1 (by omega) kHook
 refine kE Tryz.func97 a_object_Hook_ok a_object_Hook_cb fun E hE => ?_
 refine kW ?_
 refine kQ [.v (.tup [(vA ((mv kMeta o.v))), .bool (mfind kMeta o.v.m).isSome])] ?_
 refine kW ?_
 refine kQ [.v (.tup [(vA ((mv kHook (mv kMeta o.v)))), .bool (mfind kHook (mv kMeta o.v).m).isSome])] ?_
 refine kW ?_
 refine AK.ret ⟨_, rfl, ?_⟩
 rfl
theorem rhook_a (o : Ob) (hg : o.v.good) (hz : o.v.size ≤ 1000000) : AC Tryz.prog 25 [.agg (obC o)] (.str (hookOf o)) := by
 obtain ⟨g1, z1, _⟩ := mv_good hg kMeta
 have h1 := rget_a hz kMeta
 have h2 := rget_a (v := mv kMeta o.v) (by omega) kHook
 refine kE Tryz.func25 a_ref12_Hook_ok a_ref12_Hook_cb fun E hE => ?_
 refine kW ?_
 refine kQ [.v (.tup [(vA ((mv kMeta o.v))), .bool (mfind kMeta o.v.m).isSome])] ?_
 refine kW ?_
 refine kQ [.v (.tup [(vA ((mv kHook (mv kMeta o.v)))), .bool (mfind kHook (mv kMeta o.v).m).isSome])] ?_
 refine kW ?_
 refine AK.ret ⟨_, rfl, ?_⟩
 rfl
theorem objects_a (s : ByteArray) (hs : s.size ≤ 1000000) : AC Tryz.prog 53 [.str s] (.tup [.lst .any 9 (rowsO (objsL s).1), .int .i64 (objsL s).2]) := by
  have hD := docs_a s hs
  have hn := docsL_len s
  unfold objsL
  generalize (docsL s.data.toList).map toB = ds at *
  refine kE Tryz.func53 a_render_Objects_ok a_render_Objects_cb fun E hE => ?_
  refine kW ?_
  refine kQ [.v (.lst .any 1 (rowsT ds))] ?_
  refine kW ?_
  refine AK.loopI (fun i : Nat × List Ob × (Nat → Nat) => (frOf [(4, .lst (.own 39 (i.2.2 39)) 9 (rowsO i.2.1)), (11, .lst .any 1 (rowsT ds)), (12, .int .i64 (rowsT ds).length), (13, .int .i64 i.1)], ⟨boxOf [], i.2.2⟩))
   (fun i => i.1 ≤ ds.length ∧ objsF ds [] = objsF (ds.drop i.1) i.2.1 ∧ i.2.1.length ≤ i.1) (fun i => ds.length - i.1) (0, [], fun _ => 0) ⟨Nat.zero_le _, rfl, Nat.le_refl _⟩ (Weak.intro ⟨⟨_, rfl, .one (.own _ _ _ _)⟩, kI, kI, kI, trivial⟩ trivial rfl rfl) fun ⟨k, out, r⟩ ⟨hk, hF, hol⟩ => ?_
  dsimp only at hk hF hol
  dsimp only
  refine kW ?_
  refine kC (fun hb => ?_) fun hb => ?_
  ·have hlt : k < ds.length := by simpa [rowsT_len] using hb
   obtain ⟨d, hg⟩ : ∃ x, ds[k]? = some x := ⟨_, List.getElem?_eq_getElem hlt⟩
   have hd := drop_atT hg
   rw [← hd, objsF] at hF
   have hP := parse_a d
   obtain ⟨pg, pz⟩ := parse_good d
   have hO := of_a (parseL d).1 (good_sb _ _ pz (by decide) pg) (by omega)
   generalize parseL d = R at *
   obtain ⟨v, e⟩ := R
   generalize objOf v = O at *
   obtain ⟨o, f⟩ := O
   dsimp only at hF hP hO pg pz
   refine kW ?_
   refine kP [.c [.str d]] ?_ ?_
   ·((repeat' apply And.intro) <;> first | exact kD | (intro hgd; refine ⟨?_, kG⟩; (repeat' apply And.intro) <;> first | exact kD | skip) | skip)
    ·exact rowsT_at hg
   refine kW ?_
   refine kQ [.v (.tup [(vA (v)), .int .i64 e])] ?_
   refine kW ?_
   refine kC (fun hb => ?_) fun hb => ?_
   ·have h1 : e ≠ 0 := by simpa using hb
    rw [if_pos h1] at hF
    refine kW ?_
    refine AK.ret ⟨_, rfl, ?_⟩
    rw [hF]
    rfl
   have h1 : ¬ e ≠ 0 := by simpa using hb
   rw [if_neg h1] at hF
   refine kW ?_
   refine kC (fun hb => ?_) fun hb => ?_
   ·have h2 : v.kind = 0 := by simpa using hb
    rw [if_pos h2] at hF
    refine AK.exit rfl ?_
    refine kW ?_
    exact AK.lp ⟨(k + 1, out, r), ⟨by dsimp only; omega, hF, by dsimp only; omega⟩, Weak.intro ⟨kI, kI, kI, kU, trivial⟩ trivial rfl rfl, by dsimp only; omega⟩
   have h2 : ¬ v.kind = 0 := by simpa using hb
   rw [if_neg h2] at hF
   refine kW ?_
   refine kQ [.v (objAV (o, f))] ?_
   refine kW ?_
   refine kC (fun hb => ?_) fun hb => ?_
   ·have h3 : f ≠ 0 := by simpa using hb
    rw [if_pos h3] at hF
    refine kW ?_
    refine AK.ret ⟨_, rfl, ?_⟩
    rw [hF]
    rfl
   have h3 : ¬ f ≠ 0 := by simpa using hb
   rw [if_neg h3] at hF
   refine kW ?_
   refine kP [] ?_ ?_
   ·((repeat' apply And.intro) <;> first | exact kD | (intro hgd; refine ⟨?_, kG⟩; (repeat' apply And.intro) <;> first | exact kD | skip) | skip)
    all_goals simp only [rowsO_len, List.length_cons, List.length_nil]
    all_goals omega
   refine kW ?_
   refine AK.lp ⟨(k + 1, out ++ [o], _), ⟨by dsimp only; omega, hF, by dsimp only; rw [List.length_append]; simp; omega⟩, Weak.intro ⟨⟨_, rfl, .of_eq ?_⟩, kI, kI, kU, trivial⟩ trivial rfl rfl, by dsimp only; omega⟩
   dsimp only
   rw [rowsO_snoc]
   simp [appTag, appRow, upd_same]
   exact ⟨rfl, rfl, rfl, rfl, rfl, rfl, rfl, rfl, rfl⟩
  ·have hlt : k = ds.length := by have : ds.length ≤ k := by simpa [rowsT_len] using hb
                                  omega
   subst hlt
   rw [List.drop_length, objsF] at hF
   refine AK.exit rfl ?_
   refine kW ?_
   refine AK.ret ⟨_, rfl, ?_⟩
   rw [hF]
   rfl
theorem lobjects_a (s : ByteArray) (hs : s.size ≤ 1000000) : AC Tryz.prog 24 [.str s] (.tup [.lst .any 9 (rowsO (objsL s).1), .int .i64 (objsL s).2]) := by
        have hD := docs_a s hs
        have hn := docsL_len s
        unfold objsL
        generalize (docsL s.data.toList).map toB = ds at *
        refine kE Tryz.func24 a_law13_Objects_ok a_law13_Objects_cb fun E hE => ?_
        refine kW ?_
        refine kQ [.v (.lst .any 1 (rowsT ds))] ?_
        refine kW ?_
        refine AK.loopI (fun i : Nat × List Ob × (Nat → Nat) => (frOf [(4, .lst (.own 40 (i.2.2 40)) 9 (rowsO i.2.1)), (12, .lst .any 1 (rowsT ds)), (13, .int .i64 (rowsT ds).length), (14, .int .i64 i.1)], ⟨boxOf [], i.2.2⟩))
         (fun i => i.1 ≤ ds.length ∧ objsF ds [] = objsF (ds.drop i.1) i.2.1 ∧ i.2.1.length ≤ i.1) (fun i => ds.length - i.1) (0, [], fun _ => 0) ⟨Nat.zero_le _, rfl, Nat.le_refl _⟩ (Weak.intro ⟨⟨_, rfl, .one (.own _ _ _ _)⟩, kI, kI, kI, trivial⟩ trivial rfl rfl) fun ⟨k, out, r⟩ ⟨hk, hF, hol⟩ => ?_
        dsimp only at hk hF hol
        dsimp only
        refine kW ?_
        refine kC (fun hb => ?_) fun hb => ?_
        ·have hlt : k < ds.length := by simpa [rowsT_len] using hb
         obtain ⟨d, hg⟩ : ∃ x, ds[k]? = some x := ⟨_, List.getElem?_eq_getElem hlt⟩
         have hd := drop_atT hg
         rw [← hd, objsF] at hF
         have hP := parse_a d
         obtain ⟨pg, pz⟩ := parse_good d
         have hO := rof_a (parseL d).1 (good_sb _ _ pz (by decide) pg) (by omega)
         generalize parseL d = R at *
         obtain ⟨v, e⟩ := R
         generalize objOf v = O at *
         obtain ⟨o, f⟩ := O
         dsimp only at hF hP hO pg pz
         refine kW ?_
         refine kP [.c [.str d]] ?_ ?_
         ·((repeat' apply And.intro) <;> first | exact kD | (intro hgd; refine ⟨?_, kG⟩; (repeat' apply And.intro) <;> first | exact kD | skip) | skip)
          ·exact rowsT_at hg
         refine kW ?_
         refine kQ [.v (.tup [(vA (v)), .int .i64 e])] ?_
         refine kW ?_
         refine kC (fun hb => ?_) fun hb => ?_
         ·have h1 : e ≠ 0 := by simpa using hb
          rw [if_pos h1] at hF
          refine kW ?_
          refine AK.ret ⟨_, rfl, ?_⟩
          rw [hF]
          rfl
         have h1 : ¬ e ≠ 0 := by simpa using hb
         rw [if_neg h1] at hF
         refine kW ?_
         refine kC (fun hb => ?_) fun hb => ?_
         ·have h2 : v.kind = 0 := by simpa using hb
          rw [if_pos h2] at hF
          refine AK.exit rfl ?_
          refine kW ?_
          exact AK.lp ⟨(k + 1, out, r), ⟨by dsimp only; omega, hF, by dsimp only; omega⟩, Weak.intro ⟨kI, kI, kI, kU, trivial⟩ trivial rfl rfl, by dsimp only; omega⟩
         have h2 : ¬ v.kind = 0 := by simpa using hb
         rw [if_neg h2] at hF
         refine kW ?_
         refine kQ [.v (objAV (o, f))] ?_
         refine kW ?_
         refine kC (fun hb => ?_) fun hb => ?_
         ·have h3 : f ≠ 0 := by simpa using hb
          rw [if_pos h3] at hF
          refine kW ?_
          refine AK.ret ⟨_, rfl, ?_⟩
          rw [hF]
          rfl
         have h3 : ¬ f ≠ 0 := by simpa using hb
         rw [if_neg h3] at hF
         refine kW ?_
         refine kP [] ?_ ?_
         ·((repeat' apply And.intro) <;> first | exact kD | (intro hgd; refine ⟨?_, kG⟩; (repeat' apply And.intro) <;> first | exact kD | skip) | skip)
          all_goals simp only [rowsO_len, List.length_cons, List.length_nil]
          all_goals omega
         refine kW ?_
         refine AK.lp ⟨(k + 1, out ++ [o], _), ⟨by dsimp only; omega, hF, by dsimp only; rw [List.length_append]; simp; omega⟩, Weak.intro ⟨⟨_, rfl, .of_eq ?_⟩, kI, kI, kU, trivial⟩ trivial rfl rfl, by dsimp only; omega⟩
         dsimp only
         rw [rowsO_snoc]
         simp [appTag, appRow, upd_same]
         exact ⟨rfl, rfl, rfl, rfl, rfl, rfl, rfl, rfl, rfl⟩
        ·have hlt : k = ds.length := by have : ds.length ≤ k := by simpa [rowsT_len] using hb
                                        omega
         subst hlt
         rw [List.drop_length, objsF] at hF
         refine AK.exit rfl ?_
         refine kW ?_
         refine AK.ret ⟨_, rfl, ?_⟩
         rw [hF]
         rfl
def splitO (w : ByteArray) (l : List Ob) : List Ob × List Ob := (l.filter fun o => !decide (hookOf o = ⟨#[]⟩) && decide (hookOf o = w), l.filter fun o => decide (hookOf o = ⟨#[]⟩))
theorem osplit_a (w : ByteArray) (l : List Ob) (hl : l.length ≤ 1000000) (h : ∀ o ∈ l, o.v.good ∧ o.v.size ≤ 1000000) : AC Tryz.prog 54 [.lst .any 9 (rowsO l), .str w] (.tup [.lst .any 9 (rowsO (splitO w l).1), .lst .any 9 (rowsO (splitO w l).2)]) := by
 refine kE Tryz.func54 a_render_Split_ok a_render_Split_cb fun E hE => ?_
 refine kW ?_
 refine AK.loopI (fun i : Nat × (Nat → Nat) => (frOf [(1, .str w), (4, .lst (.own 28 (i.2 28)) 9 (rowsO (splitO w (l.take i.1)).1)), (5, .lst (.own 21 (i.2 21)) 9 (rowsO (splitO w (l.take i.1)).2)), (8, .lst .any 9 (rowsO l)), (9, .int .i64 (rowsO l).length), (10, .int .i64 i.1)], ⟨boxOf [], i.2⟩))
  (fun i => i.1 ≤ l.length) (fun i => l.length - i.1) (0, fun _ => 0) (Nat.zero_le _) (Weak.intro ⟨kI, ⟨_, rfl, .one (.own _ _ _ _)⟩, ⟨_, rfl, .one (.own _ _ _ _)⟩, kI, kI, kI, trivial⟩ trivial rfl rfl) fun ⟨k, r⟩ hk => ?_
 dsimp only at hk
 dsimp only
 refine kW ?_
 refine kC (fun hb => ?_) fun hb => ?_
 ·have hlt : k < l.length := by simpa [rowsO_len] using hb
  obtain ⟨o, hg⟩ : ∃ x, l[k]? = some x := ⟨_, List.getElem?_eq_getElem hlt⟩
  obtain ⟨g1, z1⟩ := h o (List.mem_of_getElem? hg)
  have hH := hook_a o g1 z1
  have hs : splitO w (l.take (k + 1)) = ((splitO w (l.take k)).1 ++ (if (!decide (hookOf o = ⟨#[]⟩) && decide (hookOf o = w)) = true then [o] else []), (splitO w (l.take k)).2 ++ (if decide (hookOf o = ⟨#[]⟩) = true then [o] else [])) := by
   unfold splitO
   rw [List.take_add_one, hg]
   simp only [Option.toList_some, List.filter_append, List.filter_cons, List.filter_nil]
  have hl1 : (splitO w (l.take k)).1.length ≤ 1000000 := Nat.le_trans (List.length_filter_le _ _) (by rw [List.length_take]; omega)
  have hl2 : (splitO w (l.take k)).2.length ≤ 1000000 := Nat.le_trans (List.length_filter_le _ _) (by rw [List.length_take]; omega)
  generalize splitO w (l.take k) = S at *
  obtain ⟨a, b⟩ := S
  dsimp only at hs hl1 hl2 ⊢
  refine kW ?_
  refine kP [.c (obC o)] ?_ ?_
  ·((repeat' apply And.intro) <;> first | exact kD | (intro hgd; refine ⟨?_, kG⟩; (repeat' apply And.intro) <;> first | exact kD | skip) | skip)
   ·exact rowsO_at hg
  refine kW ?_
  refine kQ [.v (.str (hookOf o))] ?_
  refine kW ?_
  refine kC (fun hb => ?_) fun hb => ?_
  ·rw [hb] at hs
   refine kW ?_
   refine kP [] ?_ ?_
   ·((repeat' apply And.intro) <;> first | exact kD | (intro hgd; refine ⟨?_, kG⟩; (repeat' apply And.intro) <;> first | exact kD | skip) | skip)
    all_goals simp only [rowsO_len, List.length_cons, List.length_nil]
    all_goals omega
   refine kW ?_
   refine AK.lp ⟨(k + 1, _), by dsimp only; omega, Weak.intro ⟨kI, ⟨_, rfl, .of_eq ?_⟩, ⟨_, rfl, .of_eq ?_⟩, kI, kI, kU, trivial⟩ trivial rfl rfl, by dsimp only; omega⟩
   ·dsimp only
    rw [hs]
    simp [appRow, upd]
    rfl
   ·dsimp only
    rw [hs]
    simp [rowsO_snoc, appTag, appRow, upd_same]
    exact ⟨rfl, rfl, rfl, rfl, rfl, rfl, rfl, rfl, rfl⟩
  rw [hb] at hs
  refine kW ?_
  refine kC (fun hb => ?_) fun hb => ?_
  ·rw [hb] at hs
   refine kW ?_
   refine kP [] ?_ ?_
   ·((repeat' apply And.intro) <;> first | exact kD | (intro hgd; refine ⟨?_, kG⟩; (repeat' apply And.intro) <;> first | exact kD | skip) | skip)
    all_goals simp only [rowsO_len, List.length_cons, List.length_nil]
    all_goals omega
   refine kW ?_
   refine AK.lp ⟨(k + 1, _), by dsimp only; omega, Weak.intro ⟨kI, ⟨_, rfl, .of_eq ?_⟩, ⟨_, rfl, .of_eq ?_⟩, kI, kI, kU, trivial⟩ trivial rfl rfl, by dsimp only; omega⟩
   ·dsimp only
    rw [hs]
    simp [rowsO_snoc, appTag, appRow, upd_same]
    exact ⟨rfl, rfl, rfl, rfl, rfl, rfl, rfl, rfl, rfl⟩
   ·dsimp only
    rw [hs]
    simp [appRow, upd]
    rfl
  ·rw [hb] at hs
   refine kW ?_
   refine AK.lp ⟨(k + 1, r), by dsimp only; omega, Weak.intro ⟨kI, ⟨_, rfl, .of_eq ?_⟩, ⟨_, rfl, .of_eq ?_⟩, kI, kI, kU, trivial⟩ trivial rfl rfl, by dsimp only; omega⟩
   ·dsimp only
    rw [hs]
    simp
   ·dsimp only
    rw [hs]
    simp
 ·have hlt : k = l.length := by have : l.length ≤ k := by simpa [rowsO_len] using hb
                                omega
  subst hlt
  rw [List.take_length]
  refine AK.exit rfl ?_
  refine kW ?_
  refine AK.ret ⟨_, rfl, ?_⟩
  rfl
theorem same12_refl (l : List Ob) (hl : l.length ≤ 1000000) (hz : ∀ o ∈ l, o.v.size ≤ 1000000) : AC Tryz.prog 26 [.lst .any 9 (rowsO l), .lst .any 9 (rowsO l)] (.bool true) := by
 refine kE Tryz.func26 a_ref12_Same_ok a_ref12_Same_cb fun E hE => ?_
 refine kW ?_
 refine kC (fun hb => ?_) fun hb => ?_
 ·simp at hb
 refine kW ?_
 refine AK.loopI (fun k : Nat => (frOf [(0, .lst .any 9 (rowsO l)), (1, .lst .any 9 (rowsO l)), (5, .int .i64 k)], ⟨boxOf [], fun _ => 0⟩)) (fun k => k ≤ l.length) (fun k => l.length - k) 0 (Nat.zero_le _) (Weak.intro ⟨kI, kI, kI, trivial⟩ trivial rfl rfl) fun k hk => ?_
 refine kW ?_
 refine kC (fun hb => ?_) fun hb => ?_
 ·have hlt : k < l.length := by simpa [rowsO_len] using hb
  obtain ⟨o, hg⟩ : ∃ x, l[k]? = some x := ⟨_, List.getElem?_eq_getElem hlt⟩
  have z1 := hz o (List.mem_of_getElem? hg)
  have hS := refSame_a o.v.size o.v o.v (Nat.le_refl _) (by omega)
  rw [show o.v.sameB o.v = true from V.sameB_true.2 rfl] at hS
  have hq := eqID_any true o.k o.s o.n o.k o.s o.n
  have hc : eqCells [.str o.k, .str o.s, .str o.n] [.str o.k, .str o.s, .str o.n] = true := eqCells_same3 _ _ _
  refine kW ?_
  refine kP [.c (obC o), .c (obC o), .c (obC o), .c (obC o), .v (.bool true)] ?_ ?_
  ·((repeat' apply And.intro) <;> first | exact kD | (intro hgd; refine ⟨?_, kG⟩; (repeat' apply And.intro) <;> first | exact kD | skip) | skip)
   all_goals first | exact rowsO_at hg | exact hq | exact hS | skip
   all_goals exact fun _ => ⟨rowsO_at hg, trivial⟩
  rw [hc]
  refine kC (fun hb => ?_) fun hb => ?_
  ·simp at hb
  ·refine kW ?_
   exact AK.lp ⟨k + 1, by omega, Weak.intro ⟨kI, kI, kU, trivial⟩ trivial rfl rfl, by omega⟩
 ·have hlt : k = l.length := by have : l.length ≤ k := by simpa [rowsO_len] using hb
                                omega
  subst hlt
  refine AK.exit rfl ?_
  refine kW ?_
  refine AK.ret ⟨_, rfl, ?_⟩
  rfl
def rcV (r : Rc) : List Value := [.string r.rel, .int .i64 r.rev, .int .i64 r.st, .int .i64 r.cmd, .string r.ch, .string r.va, .string r.ma]
end Go.Proofs.YtbfiopoefbbknaaGreatDoor
namespace Go.Proofs.YtbfiopoefbbknaaGreatDoor
set_option maxRecDepth 100000
def b_ref17_ID : ACode :=
 .seq (gQ [⟨gO, .alloc 4 [.str ⟨#[]⟩, .str ⟨#[]⟩, .str ⟨#[]⟩]⟩]) (.seq (gQ [gM 5 0, ⟨gO, gB 6 .add (.s 5) (gS ⟨#[46, 118]⟩)⟩, gM 7 1, gC 8 70 [.s 7], gV 9 .add 6 8, ⟨gO, .build 10 [.str ⟨#[]⟩, .str ⟨#[]⟩, .str ⟨#[]⟩] [(0, 1, gS ⟨#[82, 101, 108, 101, 97, 115, 101]⟩), (1, 1, gS ⟨#[100, 101, 102, 97, 117, 108, 116]⟩), (2, 1, .s 9)]⟩, gT 3 4 10]) .ret)
def a_ref17_ID : AFn := ⟨2, 11, b_ref17_ID, [.cell 4 3 true]⟩
theorem a_ref17_ID_ok : fnAF Tryz.prog [] Tryz.f34 = some a_ref17_ID := by kernel_rfl
theorem a_ref17_ID_cb : callable Tryz.prog 34 = true := by kernel_rfl
def b_ref17_Encode : ACode :=
 .seq (gQ [gP 1 0, ⟨gO, .alloc 2 gZ⟩]) (.seq (gQ [gF 3 4 1, gL 4 3, gC 5 65 [.s 4], ⟨gO, .build 6 [.str ⟨#[]⟩, .int .i64 0, .bool false, .int .i64 0, .str ⟨#[]⟩, .lst .nil 6 [], .lst .nil 7 []] [(0, 1, gS ⟨#[99, 104, 97, 114, 116]⟩), (1, 6, .s 5)]⟩, gF 7 3 1, gL 8 7, gC 9 66 [.s 8], ⟨gO, .build 10 [.str ⟨#[]⟩, .int .i64 0, .bool false, .int .i64 0, .str ⟨#[]⟩, .lst .nil 6 [], .lst .nil 7 []] [(0, 1, gS ⟨#[99, 111, 109, 109, 97, 110, 100]⟩), (1, 6, .s 9)]⟩, gF 11 6 1, gL 12 11, gC 13 65 [.s 12], ⟨gO, .build 14 [.str ⟨#[]⟩, .int .i64 0, .bool false, .int .i64 0, .str ⟨#[]⟩, .lst .nil 6 [], .lst .nil 7 []] [(0, 1, gS ⟨#[109, 97, 110, 105, 102, 101, 115, 116]⟩), (1, 6, .s 13)]⟩, gF 15 0 1, gL 16 15, gC 17 65 [.s 16], ⟨gO, .build 18 [.str ⟨#[]⟩, .int .i64 0, .bool false, .int .i64 0, .str ⟨#[]⟩, .lst .nil 6 [], .lst .nil 7 []] [(0, 1, gS ⟨#[114, 101, 108, 101, 97, 115, 101]⟩), (1, 6, .s 17)]⟩, gF 19 1 1, gL 20 19, gC 21 66 [.s 20], ⟨gO, .build 22 [.str ⟨#[]⟩, .int .i64 0, .bool false, .int .i64 0, .str ⟨#[]⟩, .lst .nil 6 [], .lst .nil 7 []] [(0, 1, gS ⟨#[114, 101, 118, 105, 115, 105, 111, 110]⟩), (1, 6, .s 21)]⟩, gF 23 2 1, gL 24 23, gC 25 66 [.s 24], ⟨gO, .build 26 [.str ⟨#[]⟩, .int .i64 0, .bool false, .int .i64 0, .str ⟨#[]⟩, .lst .nil 6 [], .lst .nil 7 []] [(0, 1, gS ⟨#[115, 116, 97, 116, 117, 115]⟩), (1, 6, .s 25)]⟩, gF 27 5 1, gL 28 27, gC 29 65 [.s 28], ⟨gO, .build 30 [.str ⟨#[]⟩, .int .i64 0, .bool false, .int .i64 0, .str ⟨#[]⟩, .lst .nil 6 [], .lst .nil 7 []] [(0, 1, gS ⟨#[118, 97, 108, 117, 101, 115]⟩), (1, 6, .s 29)]⟩, ⟨gO, .bsl 31 7 7 [.str ⟨#[]⟩, .int .i64 0, .bool false, .int .i64 0, .str ⟨#[]⟩, .lst .nil 6 [], .lst .nil 7 [], .str ⟨#[]⟩, .int .i64 0, .bool false, .int .i64 0, .str ⟨#[]⟩, .lst .nil 6 [], .lst .nil 7 [], .str ⟨#[]⟩, .int .i64 0, .bool false, .int .i64 0, .str ⟨#[]⟩, .lst .nil 6 [], .lst .nil 7 [], .str ⟨#[]⟩, .int .i64 0, .bool false, .int .i64 0, .str ⟨#[]⟩, .lst .nil 6 [], .lst .nil 7 [], .str ⟨#[]⟩, .int .i64 0, .bool false, .int .i64 0, .str ⟨#[]⟩, .lst .nil 6 [], .lst .nil 7 [], .str ⟨#[]⟩, .int .i64 0, .bool false, .int .i64 0, .str ⟨#[]⟩, .lst .nil 6 [], .lst .nil 7 [], .str ⟨#[]⟩, .int .i64 0, .bool false, .int .i64 0, .str ⟨#[]⟩, .lst .nil 6 [], .lst .nil 7 []] [(0, 7, .s 6), (7, 7, .s 10), (14, 7, .s 14), (21, 7, .s 18), (28, 7, .s 22), (35, 7, .s 26), (42, 7, .s 30)]⟩, ⟨gO, .build 32 gZ [(0, 1, gI 5), (5, 1, .s 31)]⟩, gT 6 2 32]) .ret)
def a_ref17_Encode : AFn := ⟨1, 33, b_ref17_Encode, [.cell 2 6 true]⟩
theorem a_ref17_Encode_ok : fnAF Tryz.prog [] Tryz.f32 = some a_ref17_Encode := by kernel_rfl
theorem a_ref17_Encode_cb : callable Tryz.prog 32 = true := by kernel_rfl
def b_ref17_str : ACode :=
 .seq (gQ [⟨gO, .alloc 2 gZ⟩]) (.seq (gQ [gM 3 0, ⟨gO, .build 4 gZ [(0, 1, gI 3), (3, 1, .s 3)]⟩, gT 6 2 4]) .ret)
def a_ref17_str : AFn := ⟨1, 5, b_ref17_str, [.cell 2 6 true]⟩
theorem a_ref17_str_ok : fnAF Tryz.prog [] Tryz.f65 = some a_ref17_str := by kernel_rfl
theorem a_ref17_str_cb : callable Tryz.prog 65 = true := by kernel_rfl
def b_ref17_num : ACode :=
 .seq (gQ [⟨gO, .alloc 2 gZ⟩]) (.seq (gQ [gM 3 0, ⟨gO, .build 4 gZ [(0, 1, gI 2), (2, 1, .s 3)]⟩, gT 6 2 4]) .ret)
def a_ref17_num : AFn := ⟨1, 5, b_ref17_num, [.cell 2 6 true]⟩
theorem a_ref17_num_ok : fnAF Tryz.prog [] Tryz.f66 = some a_ref17_num := by kernel_rfl
theorem a_ref17_num_cb : callable Tryz.prog 66 = true := by kernel_rfl
end Go.Proofs.YtbfiopoefbbknaaGreatDoor
namespace Go.Proofs.YtbfiopoefbbknaaGreatDoor
open Go.RowKit
theorem good_parts : ∀ (n : Nat) (v : V), v.size ≤ n → v.good → v.partsC = 0 := by
 intro n
 induction n with
 | zero => intro v h; have := v.size_pos; omega
 | succ n ih =>
  intro v hn hg
  have e := v.size_eq
  obtain ⟨g1, g2, g3, g4, g5⟩ := v.good_eq.1 hg
  have hL : ∀ l : List V, sizeL l ≤ n → goodL l → partsL l = 0 := by
   intro l
   induction l with
   | nil => intro _ _; rfl
   | cons x l ihl =>
    intro hs hl
    simp only [sizeL] at hs
    rw [partsL, ih x (by omega) hl.1, if_neg (by simp)]
    exact ihl (by omega) hl.2
  have hM : ∀ (m : List (ByteArray × V)) (p : Option ByteArray), sizeM m ≤ n → goodM m → risingK m → (∀ z, p = some z → ∀ q, m.head? = some q → Op.bytesLess z.toList q.1.toList = true) → partsM p m = 0 := by
   intro m
   induction m with
   | nil => intro p _ _ _ _; rfl
   | cons q m ihm =>
    obtain ⟨y, x⟩ := q
    intro p hs hm hr hp
    simp only [sizeM] at hs
    have hnr : noRise p y = false := by
     cases p with
     | none => rfl
     | some z => rw [noRise, hp z rfl (y, x) rfl]; rfl
    rw [partsM, if_neg (by rw [hm.1]; simp), if_neg (by rw [hnr]; simp), ih x (by omega) hm.2.1, if_neg (by simp)]
    refine ihm (some y) (by omega) hm.2.2 ?_ ?_
    ·cases m with
     | nil => trivial
     | cons q m => exact hr.2
    ·intro z hz q hq
     cases hz
     cases m with
     | nil => cases hq
     | cons q' m => simp at hq; subst hq; exact hr.1
  rw [V.partsC_eq, if_neg (by simp [g1]), if_neg (by simp [g2]), hL v.l (by omega) g3, if_neg (by simp)]
  exact hM v.m none (by omega) g4 g5 (by simp)
theorem good_check {v : V} (h : v.good) (hd : v.depth ≤ 16) : v.checkC = if 4096 < v.size then 6 else 0 := by
 rw [V.checkC, if_neg (by omega), good_parts v.size v (Nat.le_refl _) h]
end Go.Proofs.YtbfiopoefbbknaaGreatDoor
