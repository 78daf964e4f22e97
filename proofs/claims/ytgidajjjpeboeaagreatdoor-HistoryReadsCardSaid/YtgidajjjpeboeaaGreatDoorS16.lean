/-
  The texts that the claim wants, one behind the other: part 16.
-/
import Derived.Test.YtgidajjjpeboeaaGreatDoorS15
import Derived.Shelf.Small.Bits
import Derived.Shelf.Small.Strs
import Derived.Shelf.Strconv.Atoi
import Derived.Shelf.Strconv.Itoa0
import Derived.Shelf.Strconv.Itoa1
import Derived.Shelf.LaysM
import Derived.Shelf.Strconv.Itoa2
import Derived.Shelf.Strconv.Itoa3
import Derived.Shelf.Strconv.AtoiErrFast
import Derived.Shelf.Strconv.ParseIntEmpty
import Derived.Shelf.Strconv.AtoiFail
import Derived.Shelf.Strconv.Clone
import Derived.Shelf.Strconv.SyntaxError
import Derived.Shelf.LaysC
import Derived.Shelf.Strconv.ToError
import Derived.Shelf.Strconv.Lower
import Derived.Shelf.Strconv.ParseUint10
import Derived.Shelf.Strconv.ParseUint10Empty
import Derived.Shelf.Strconv.ParseUint10Any
import Derived.Shelf.Strconv.ParseInt10
import Derived.Shelf.Strconv.AtoiLong
import Derived.Shelf.Strconv.AtoiInnerAll
import Derived.Shelf.Strconv.RangeError
import Derived.Shelf.Strconv.ToErrorRange
import Derived.Shelf.Strconv.AtoiAll
import Derived.Shelf.Strings.Search1
import Derived.Shelf.Strings.Search2
import Derived.Shelf.Strings.Search3
import Derived.Shelf.Strings.Shaped
import Derived.Shelf.Sort.Plain
import Derived.Shelf.Strings.LastIndex
import Derived.Shelf.Strings.LastIndexAll
import Derived.Shelf.Slices.CompactS
import Derived.Shelf.Slices.In.SortNone
import Derived.Test.YtgidajjjpeboeaaGreatDoorProg
import Derived.Test.YtgidajjjpeboeaaGreatDoorChecked
import Derived.KernelRfl
set_option linter.unusedSimpArgs false
set_option linter.unusedVariables false
namespace Go.Proofs
open Go.Shelf
def Tryz.lays190_ren : Go.Shelf.Ren := ⟨fun | 190 => 48 | 125 => 73 | 258 => 82 | 128 => 117 | 129 => 118 | 302 => 126 | 303 => 127 | 304 => 128 | 305 => 129 | 306 => 130 | 307 => 131 | 308 => 132 | 309 => 133 | 310 => 134 | 333 => 176 | 329 => 170 | 330 => 171 | 334 => 177 | 335 => 178 | 336 => 120 | 344 => 196 | n => n, fun | 31 => 49 | 9 => 9 | 3 => 3 | 46 => 130 | 0 => 0 | 51 => 175 | 53 => 177 | 4 => 4 | 183 => 169 | 182 => 168 | 131 => 117 | 5 => 5 | 218 => 210 | 222 => 214 | 228 => 231 | 229 => 232 | n => n, fun | n => n⟩
theorem Tryz.lays190 : Go.Proofs.Lays.n190 Tryz.prog Tryz.lays190_ren := {
 mixed := by kernel_rfl
 f125 := Tryz.func73.trans (congrArg some (by kernel_rfl))
 f128 := Tryz.func117.trans (congrArg some (by kernel_rfl))
 f129 := Tryz.func118.trans (congrArg some (by kernel_rfl))
 f190 := Tryz.func48.trans (congrArg some (by kernel_rfl))
 f258 := Tryz.func82.trans (congrArg some (by kernel_rfl))
 f302 := Tryz.func126.trans (congrArg some (by kernel_rfl))
 f303 := Tryz.func127.trans (congrArg some (by kernel_rfl))
 f304 := Tryz.func128.trans (congrArg some (by kernel_rfl))
 f305 := Tryz.func129.trans (congrArg some (by kernel_rfl))
 f306 := Tryz.func130.trans (congrArg some (by kernel_rfl))
 f307 := Tryz.func131.trans (congrArg some (by kernel_rfl))
 f308 := Tryz.func132.trans (congrArg some (by kernel_rfl))
 f309 := Tryz.func133.trans (congrArg some (by kernel_rfl))
 f310 := Tryz.func134.trans (congrArg some (by kernel_rfl))
 f329 := Tryz.func170.trans (congrArg some (by kernel_rfl))
 f330 := Tryz.func171.trans (congrArg some (by kernel_rfl))
 f333 := Tryz.func176.trans (congrArg some (by kernel_rfl))
 f334 := Tryz.func177.trans (congrArg some (by kernel_rfl))
 f335 := Tryz.func178.trans (congrArg some (by kernel_rfl))
 f336 := Tryz.func120.trans (congrArg some (by kernel_rfl))
 f344 := Tryz.func196.trans (congrArg some (by kernel_rfl))
 t0 := Tryz.underlying0
 a0 := Tryz.isAgg0
 z0 := Tryz.sizeOf0
 v0 := Tryz.zeroValue0
 t3 := Tryz.underlying3
 a3 := Tryz.isAgg3
 z3 := Tryz.sizeOf3
 v3 := Tryz.zeroValue3
 t4 := Tryz.underlying4
 a4 := Tryz.isAgg4
 z4 := Tryz.sizeOf4
 v4 := Tryz.zeroValue4
 t5 := Tryz.underlying5
 a5 := Tryz.isAgg5
 z5 := Tryz.sizeOf5
 v5 := Tryz.zeroValue5
 t9 := Tryz.underlying9
 a9 := Tryz.isAgg9
 z9 := Tryz.sizeOf9
 v9 := Tryz.zeroValue9
 t31 := Tryz.underlying49
 a31 := Tryz.isAgg49
 z31 := Tryz.sizeOf49
 v31 := Tryz.zeroValue49
 t46 := Tryz.underlying130
 a46 := Tryz.isAgg130
 z46 := Tryz.sizeOf130
 v46 := Tryz.zeroValue130
 t51 := Tryz.underlying175
 a51 := Tryz.isAgg175
 z51 := Tryz.sizeOf175
 v51 := Tryz.zeroValue175
 t53 := Tryz.underlying177
 a53 := Tryz.isAgg177
 z53 := Tryz.sizeOf177
 v53 := Tryz.zeroValue177
 t131 := Tryz.underlying117
 a131 := Tryz.isAgg117
 z131 := Tryz.sizeOf117
 v131 := Tryz.zeroValue117
 t182 := Tryz.underlying168
 a182 := Tryz.isAgg168
 z182 := Tryz.sizeOf168
 v182 := Tryz.zeroValue168
 t183 := Tryz.underlying169
 a183 := Tryz.isAgg169
 z183 := Tryz.sizeOf169
 v183 := Tryz.zeroValue169
 t218 := Tryz.underlying210
 a218 := Tryz.isAgg210
 z218 := Tryz.sizeOf210
 v218 := Tryz.zeroValue210
 t222 := Tryz.underlying214
 a222 := Tryz.isAgg214
 z222 := Tryz.sizeOf214
 v222 := Tryz.zeroValue214
 t228 := Tryz.underlying231
 a228 := Tryz.isAgg231
 z228 := Tryz.sizeOf231
 v228 := Tryz.zeroValue231
 t229 := Tryz.underlying232
 a229 := Tryz.isAgg232
 z229 := Tryz.sizeOf232
 v229 := Tryz.zeroValue232 }
open Go.Sort Go.RowKit in
theorem Tryz.slices_Sort_string (blk off cap : Nat) (ss : List (List UInt8)) (w : World) (hH : Holds encStr w blk off ss.toArray) (hblk : blk < w.heap.size) (hsz : ss.length < 4611686018427387904) :
  Calls Tryz.prog 48 #[.slice (some ⟨blk, off, none⟩) ss.length cap] w fun e w' =>
   e = .returned (.tuple #[]) ∧ ∃ n os, w' = grow (putRow encStr (Sort.ahead w n) blk off (ss.mergeSort fun x y => decide (x ≤ y)).toArray) os := Any.slices_Sort_string Tryz.lays190 blk off cap ss w hH hblk hsz
def Tryz.lays194_ren : Go.Shelf.Ren := ⟨fun | 194 => 49 | n => n, fun | 31 => 49 | 9 => 9 | 3 => 3 | 4 => 4 | 0 => 0 | n => n, fun | n => n⟩
theorem Tryz.lays194 : Go.Proofs.Lays.n194 Tryz.prog Tryz.lays194_ren := {
 mixed := by kernel_rfl
 f194 := Tryz.func49.trans (congrArg some (by kernel_rfl))
 t0 := Tryz.underlying0
 a0 := Tryz.isAgg0
 z0 := Tryz.sizeOf0
 v0 := Tryz.zeroValue0
 t3 := Tryz.underlying3
 a3 := Tryz.isAgg3
 z3 := Tryz.sizeOf3
 v3 := Tryz.zeroValue3
 t4 := Tryz.underlying4
 a4 := Tryz.isAgg4
 z4 := Tryz.sizeOf4
 v4 := Tryz.zeroValue4
 t9 := Tryz.underlying9
 a9 := Tryz.isAgg9
 z9 := Tryz.sizeOf9
 v9 := Tryz.zeroValue9
 t31 := Tryz.underlying49
 a31 := Tryz.isAgg49
 z31 := Tryz.sizeOf49
 v31 := Tryz.zeroValue49 }
open Go.RowKit Go.Lib Go.Sort in
theorem Tryz.slices_Compact_string (blk off cap : Nat) (zs : List (List UInt8)) (w : World) (hH : Holds encStr w blk off zs.toArray) (hsz : zs.length ≤ 9223372036854775807) (hcap : zs.length ≤ cap) :
  Calls Tryz.prog 49 #[.slice (some ⟨blk, off, none⟩) zs.length cap] w fun e w' => e = .returned (.slice (some ⟨blk, off, none⟩) (Lib.compact zs).length cap) ∧ ∃ q, w' = putRow encStr (Sort.ahead w q) blk off (Lib.compact zs ++ List.replicate (zs.length - (Lib.compact zs).length) []).toArray := Any.slices_Compact_string Tryz.lays194 blk off cap zs w hH hsz hcap
open Go.RowKit Go.Lib Go.Sort in
theorem Tryz.slices_Compact_string_empty (a : Option Addr) (cap : Nat) (w : World) :
  Calls Tryz.prog 49 #[.slice a 0 cap] w fun e w' => e = .returned (.slice a 0 cap) ∧ w' = w := Any.slices_Compact_string_empty Tryz.lays194 a cap w
open Go.RowKit Go.Sort in
theorem Tryz.slices_Sort_string_none (p : Option Addr) (cap : Nat) (w : World) :
  Calls Tryz.prog 48 #[.slice p 0 cap] w fun e w' => e = .returned (.tuple #[]) ∧ w' = w := Any.slices_Sort_string_none Tryz.lays190 p cap w
end Go.Proofs
namespace Go.Proofs.YtgidajjjpeboeaaGreatDoor
set_option maxRecDepth 100000
def b_cluster_Cluster_Objects : ACode :=
 .seq (gQ [⟨gO, .mov 2 (.k (.lst .nil 9 []))⟩]) (.seq (.seq (gQ [gM 6 0, ⟨gO, .eqs 7 false 33 (.s 6) (.k (.raw (Value.pointer none)))⟩]) (.cond (.s 7) (.seq (gQ [⟨gO, .mov 2 (.k (.lst .nil 9 []))⟩]) .ret) .skip)) (.seq (gQ [⟨gO, .mov 3 (.k (.lst .nil 9 []))⟩]) (.seq (.seq (gQ [gM 8 0, gF 9 0 8, gF 10 0 9, gL 11 10, ⟨gO, .rng 68 12 (.s 11)⟩]) (.block 0 (.loop (.seq (gQ [⟨gO, .nxt 13 (.s 12)⟩, gX 14 0 13]) (.seq (.cond (.s 14) .skip (.exit 0)) (.block 1 (.seq (gQ [⟨gO, .ent 15 (.s 12)⟩, gX 16 0 15, gX 17 1 15, ⟨gO, .alloc 4 [.str ⟨#[]⟩, .str ⟨#[]⟩, .str ⟨#[]⟩]⟩, ⟨gO, .alloc 5 [.int .i64 0, .bool false, .int .i64 0, .str ⟨#[]⟩, .lst .nil 6 [], .lst .nil 7 [], .int .i64 0]⟩, gT 3 4 16, gT 7 5 17]) (.reg [gM 18 3, gA 19 3 4, gF 20 0 5, gA 21 6 20, gC 22 38 [.s 21], ⟨gO, .build 23 [.str ⟨#[]⟩, .str ⟨#[]⟩, .str ⟨#[]⟩, .int .i64 0, .bool false, .int .i64 0, .str ⟨#[]⟩, .lst .nil 6 [], .lst .nil 7 []] [(0, 3, .s 19), (3, 6, .s 22)]⟩, ⟨gO, .bsl 24 1 9 [.str ⟨#[]⟩, .str ⟨#[]⟩, .str ⟨#[]⟩, .int .i64 0, .bool false, .int .i64 0, .str ⟨#[]⟩, .lst .nil 6 [], .lst .nil 7 []] [(0, 9, .s 23)]⟩, ⟨gO, .appr 25 9 136 (.s 18) (.s 24)⟩, gM 3 25])))))))) (.seq (gQ [gM 26 3, ⟨gO, .calls (some 27) (.k (.fn 39 [])) [.s 26, .k (.fn 40 [])]⟩]) (.seq (gQ [gM 28 3, gM 2 28]) .ret)))))
def a_cluster_Cluster_Objects : AFn := ⟨1, 29, b_cluster_Cluster_Objects, [.tmp 2]⟩
theorem a_cluster_Cluster_Objects_ok : fnAF Tryz.prog [2000039, 4000025] Tryz.f11 = some a_cluster_Cluster_Objects := by kernel_rfl
theorem a_cluster_Cluster_Objects_cb : callable Tryz.prog 11 = true := by kernel_rfl
end Go.Proofs.YtgidajjjpeboeaaGreatDoor
