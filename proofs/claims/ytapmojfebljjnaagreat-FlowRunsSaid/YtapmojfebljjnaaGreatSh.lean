/- DERIVED: THE SHELF's CONTRACTS AT THIS DUMP, IN PLAIN WORDS (tools/lay-plain.mjs out of 'TryzShelf.lean', which tools/lay-shelf.mjs wrote): THE SAME DECLARATIONS UNDER THE SAME NAMES: 'import', 'namespace', 'open', 'def', 'theorem' AND NOTHING ELSE: no command of the shelf's: FOR A HAND-IN. Each laying: the table of numbers ('.._ren') and one theorem, a field a fact of the dump's own or the kernel's comparison; each contract: ONE APPLICATION. -/
import Derived.Shelf.Small.Bits
import Derived.Shelf.Small.Wraps
import Derived.Shelf.Strconv.Itoa0
import Derived.Shelf.Sort.Plain
import Derived.Ground.Names2Prog
import Derived.Shelf.Slices.CompactI
import Derived.Shelf.Slices.SearchI
import Derived.Shelf.Slices.Cells
import Derived.Shelf.Slices.In.SortNone
import Derived.Shelf.Slices.Empties
import Derived.Shelf.SlIterI.Nil
import Derived.Shelf.SortM.Plain
import Derived.Shelf.SortM.SortNone
import Derived.Ground.GgzProg
import Derived.Ground.SlgmProg
import Derived.Test.YtapmojfebljjnaaGreatProg
namespace Go.Proofs
open Go.Shelf
open Go.RowKit in
def Tryz.lays189_ren : Go.Shelf.Ren := ⟨fun | 189 => 74 | 125 => 110 | 257 => 109 | 128 => 150 | 129 => 151 | 294 => 142 | 295 => 143 | 296 => 144 | 297 => 145 | 298 => 146 | 299 => 147 | 216 => 76 | 300 => 148 | 301 => 149 | 328 => 170 | 329 => 171 | 330 => 172 | 331 => 173 | 332 => 174 | 215 => 111 | 343 => 188 | n => n, fun | 28 => 54 | 3 => 3 | 46 => 156 | 0 => 0 | 51 => 72 | 53 => 32 | 4 => 4 | 183 => 247 | 182 => 246 | 131 => 36 | 5 => 5 | 9 => 9 | 218 => 279 | 222 => 282 | 228 => 290 | 229 => 291 | n => n, fun | n => n⟩
theorem Tryz.lays189 : Go.Proofs.Lays.n189 Tryz.prog Tryz.lays189_ren := {
  mixed := by kernel_rfl
  f125 := Tryz.func110.trans (congrArg some (by kernel_rfl))
  f128 := Tryz.func150.trans (congrArg some (by kernel_rfl))
  f129 := Tryz.func151.trans (congrArg some (by kernel_rfl))
  f189 := Tryz.func74.trans (congrArg some (by kernel_rfl))
  f215 := Tryz.func111.trans (congrArg some (by kernel_rfl))
  f216 := Tryz.func76.trans (congrArg some (by kernel_rfl))
  f257 := Tryz.func109.trans (congrArg some (by kernel_rfl))
  f294 := Tryz.func142.trans (congrArg some (by kernel_rfl))
  f295 := Tryz.func143.trans (congrArg some (by kernel_rfl))
  f296 := Tryz.func144.trans (congrArg some (by kernel_rfl))
  f297 := Tryz.func145.trans (congrArg some (by kernel_rfl))
  f298 := Tryz.func146.trans (congrArg some (by kernel_rfl))
  f299 := Tryz.func147.trans (congrArg some (by kernel_rfl))
  f300 := Tryz.func148.trans (congrArg some (by kernel_rfl))
  f301 := Tryz.func149.trans (congrArg some (by kernel_rfl))
  f328 := Tryz.func170.trans (congrArg some (by kernel_rfl))
  f329 := Tryz.func171.trans (congrArg some (by kernel_rfl))
  f330 := Tryz.func172.trans (congrArg some (by kernel_rfl))
  f331 := Tryz.func173.trans (congrArg some (by kernel_rfl))
  f332 := Tryz.func174.trans (congrArg some (by kernel_rfl))
  f343 := Tryz.func188.trans (congrArg some (by kernel_rfl))
  t0 := Tryz.underlying0
  a0 := Tryz.isAgg0
  z0 := Tryz.sizeOf0
  v0 := Tryz.zeroValue0
  t3 := Tryz.underlying3
  a3 := Tryz.isAgg3
  z3 := Tryz.sizeOf3
  v3 := Tryz.zeroValue3
  t4 := Tryz.underlying4
  a4 := Tryz.isAgg4
  z4 := Tryz.sizeOf4
  v4 := Tryz.zeroValue4
  t5 := Tryz.underlying5
  a5 := Tryz.isAgg5
  z5 := Tryz.sizeOf5
  v5 := Tryz.zeroValue5
  t9 := Tryz.underlying9
  a9 := Tryz.isAgg9
  z9 := Tryz.sizeOf9
  v9 := Tryz.zeroValue9
  t28 := Tryz.underlying54
  a28 := Tryz.isAgg54
  z28 := Tryz.sizeOf54
  v28 := Tryz.zeroValue54
  t46 := Tryz.underlying156
  a46 := Tryz.isAgg156
  z46 := Tryz.sizeOf156
  v46 := Tryz.zeroValue156
  t51 := Tryz.underlying72
  a51 := Tryz.isAgg72
  z51 := Tryz.sizeOf72
  v51 := Tryz.zeroValue72
  t53 := Tryz.underlying32
  a53 := Tryz.isAgg32
  z53 := Tryz.sizeOf32
  v53 := Tryz.zeroValue32
  t131 := Tryz.underlying36
  a131 := Tryz.isAgg36
  z131 := Tryz.sizeOf36
  v131 := Tryz.zeroValue36
  t182 := Tryz.underlying246
  a182 := Tryz.isAgg246
  z182 := Tryz.sizeOf246
  v182 := Tryz.zeroValue246
  t183 := Tryz.underlying247
  a183 := Tryz.isAgg247
  z183 := Tryz.sizeOf247
  v183 := Tryz.zeroValue247
  t218 := Tryz.underlying279
  a218 := Tryz.isAgg279
  z218 := Tryz.sizeOf279
  v218 := Tryz.zeroValue279
  t222 := Tryz.underlying282
  a222 := Tryz.isAgg282
  z222 := Tryz.sizeOf282
  v222 := Tryz.zeroValue282
  t228 := Tryz.underlying290
  a228 := Tryz.isAgg290
  z228 := Tryz.sizeOf290
  v228 := Tryz.zeroValue290
  t229 := Tryz.underlying291
  a229 := Tryz.isAgg291
  z229 := Tryz.sizeOf291
  v229 := Tryz.zeroValue291 }
open Go.Sort Go.RowKit in
theorem Tryz.slices_Sort_int (blk off cap : Nat) (zs : List Int) (w : World) (hH : Holds (Value.int .i64) w blk off zs.toArray) (hblk : blk < w.heap.size) (hsz : zs.length < 4611686018427387904) :
    Calls Tryz.prog 74 #[.slice (some ⟨blk, off, none⟩) zs.length cap] w fun e w' =>
      e = .returned (.tuple #[]) ∧ ∃ n os, w' = grow (putRow (Value.int .i64) (Sort.ahead w n) blk off (zs.mergeSort fun x y => decide (x ≤ y)).toArray) os := Any.slices_Sort_int Tryz.lays189 blk off cap zs w hH hblk hsz
def Tryz.laysNm220_ren : Go.Shelf.Ren := ⟨fun | 20 => 75 | n => n, fun | 22 => 54 | 3 => 3 | 4 => 4 | 0 => 0 | n => n, fun | n => n⟩
theorem Tryz.laysNm220 : Go.Proofs.Lays2.n20 Tryz.prog Tryz.laysNm220_ren := {
  mixed := by kernel_rfl
  f20 := Tryz.func75.trans (congrArg some (by kernel_rfl))
  t0 := Tryz.underlying0
  a0 := Tryz.isAgg0
  z0 := Tryz.sizeOf0
  v0 := Tryz.zeroValue0
  t3 := Tryz.underlying3
  a3 := Tryz.isAgg3
  z3 := Tryz.sizeOf3
  v3 := Tryz.zeroValue3
  t4 := Tryz.underlying4
  a4 := Tryz.isAgg4
  z4 := Tryz.sizeOf4
  v4 := Tryz.zeroValue4
  t22 := Tryz.underlying54
  a22 := Tryz.isAgg54
  z22 := Tryz.sizeOf54
  v22 := Tryz.zeroValue54
  i3 := by kernel_rfl }
open Go.RowKit Go.Lib Go.Sort in
open Go.RowKit Go.Lib Go.Sort in
/-- slices.Compact at []int: "Compact replaces consecutive runs of equal elements with a single copy. This is like the uniq command found on Unix. Compact modifies the contents of the slice s and returns the modified slice, which may have a smaller length. Compact zeroes the elements between the new length and the original length. The result preserves the nilness of s.": IT RETURNS THE SLICE CUT TO 'Lib.compact zs'; ITS CELLS HOLD 'Lib.compact zs', THEN ZERO VALUES up to the old length; all else is as it was, but for the count of draws. IN THE WORDS OF slices.Sort's CONTRACT ('Holds', 'putRow'): so the everyday 'slices.Sort(xs); xs = slices.Compact(xs)' goes from the one contract to the other. It asks 'zs.length ≤ cap' (every slice's: the reslicing 's[:k]' looks at it). Length 0, nil: '.._empty'. (LAID: no walk: one application.) -/
theorem Tryz.slices_Compact_int (blk off cap : Nat) (zs : List Int) (w : World) (hH : Holds (Value.int .i64) w blk off zs.toArray) (hsz : zs.length ≤ 9223372036854775807) (hcap : zs.length ≤ cap) :
    Calls Tryz.prog 75 #[.slice (some ⟨blk, off, none⟩) zs.length cap] w fun e w' => e = .returned (.slice (some ⟨blk, off, none⟩) (Lib.compact zs).length cap) ∧ ∃ q, w' = putRow (Value.int .i64) (Sort.ahead w q) blk off (Lib.compact zs ++ List.replicate (zs.length - (Lib.compact zs).length) 0).toArray := Any.slices_Compact_int Tryz.laysNm220 blk off cap zs w hH hsz hcap
open Go.RowKit Go.Lib Go.Sort in
/-- The same at a slice of length 0, a nil one too: it comes back as it is. (LAID: no walk: one application.) -/
theorem Tryz.slices_Compact_int_empty (a : Option Addr) (cap : Nat) (w : World) :
    Calls Tryz.prog 75 #[.slice a 0 cap] w fun e w' => e = .returned (.slice a 0 cap) ∧ w' = w := Any.slices_Compact_int_empty Tryz.laysNm220 a cap w
open Go.RowKit Go.Lib in
open Go.RowKit Go.Lib in
open Go.RowKit Go.Lib in
def Tryz.laysNm225_ren : Go.Shelf.Ren := ⟨fun | 25 => 38 | 31 => 76 | 32 => 77 | 37 => 111 | n => n, fun | 22 => 54 | 3 => 3 | 4 => 4 | 40 => 156 | 0 => 0 | n => n, fun | n => n⟩
theorem Tryz.laysNm225 : Go.Proofs.Lays2.n25 Tryz.prog Tryz.laysNm225_ren := {
  mixed := by kernel_rfl
  f25 := Tryz.func38.trans (congrArg some (by kernel_rfl))
  f31 := Tryz.func76.trans (congrArg some (by kernel_rfl))
  f32 := Tryz.func77.trans (congrArg some (by kernel_rfl))
  f37 := Tryz.func111.trans (congrArg some (by kernel_rfl))
  t0 := Tryz.underlying0
  a0 := Tryz.isAgg0
  z0 := Tryz.sizeOf0
  v0 := Tryz.zeroValue0
  t3 := Tryz.underlying3
  a3 := Tryz.isAgg3
  z3 := Tryz.sizeOf3
  v3 := Tryz.zeroValue3
  t4 := Tryz.underlying4
  a4 := Tryz.isAgg4
  z4 := Tryz.sizeOf4
  v4 := Tryz.zeroValue4
  t22 := Tryz.underlying54
  a22 := Tryz.isAgg54
  z22 := Tryz.sizeOf54
  v22 := Tryz.zeroValue54
  t40 := Tryz.underlying156
  a40 := Tryz.isAgg156
  z40 := Tryz.sizeOf156
  v40 := Tryz.zeroValue156 }
open Go.RowKit Go.Lib in
/-- slices.BinarySearch at []int: "BinarySearch searches for target in a sorted slice and returns the earliest position where target is found, or the position where target would appear in the sort order; it also returns a bool saying whether the target is really found in the slice. The slice must be sorted in increasing order.": OF A SORTED SLICE IT RETURNS how many elements are less than the target, and whether the target is among the elements; the world is as it was but for the count of draws. 'zs': what the cells behind the slice's address hold; 'zs.take n': its elements. (Of a slice that is not sorted: no contract here.) (LAID: no walk: one application.) -/
theorem Tryz.slices_BinarySearch_int (b off n c : Nat) (zs : List Int) (x : Int) (w : World) (hz : n ≤ zs.length) (hbig : n < 4611686018427387904) (hc : ∀ j, j < zs.length → w.cell? ⟨b, off + j, none⟩ = some (.int .i64 (zs.getD j 0))) (hs : (zs.take n).Pairwise (· ≤ ·)) :
    Calls Tryz.prog 38 #[.slice (some ⟨b, off, none⟩) n c, .int .i64 x] w fun e w' => e = .returned (.tuple #[.int .i64 ((zs.take n).countP (· < x) : Nat), .bool ((zs.take n).contains x)]) ∧ ∃ q, w' = w.drewN q := Any.slices_BinarySearch_int Tryz.laysNm225 b off n c zs x w hz hbig hc hs
open Go.RowKit Go.Lib Go.Sort in
open Go.RowKit Go.Sort in
/-- .. and plain. (LAID: no walk: one application.) -/
theorem Tryz.slices_Sort_int_none (p : Option Addr) (cap : Nat) (w : World) :
    Calls Tryz.prog 74 #[.slice p 0 cap] w fun e w' => e = .returned (.tuple #[]) ∧ w' = w := Any.slices_Sort_int_none Tryz.lays189 p cap w
open Go.RowKit Go.Lib in
def Tryz.keysA_ren : Go.Shelf.Ren := ⟨fun | 7 => 72 | 10 => 108 | n => n, fun | 23 => 162 | 26 => 3 | 3 => 4 | 28 => 165 | 0 => 0 | 27 => 164 | 33 => 87 | 4 => 4 | n => n, fun | n => n⟩
theorem Tryz.keysA : Go.Proofs.SlLaysZI.n7 Tryz.prog Tryz.keysA_ren := {
  mixed := by kernel_rfl
  f7 := ⟨Tryz.f72.name, by decide, Tryz.func72.trans (congrArg some (by kernel_rfl))⟩
  f10 := ⟨Tryz.f108.name, by decide, Tryz.func108.trans (congrArg some (by kernel_rfl))⟩
  t0 := Tryz.underlying0
  a0 := Tryz.isAgg0
  z0 := Tryz.sizeOf0
  v0 := Tryz.zeroValue0
  t4 := Tryz.underlying4
  a4 := Tryz.isAgg4
  z4 := Tryz.sizeOf4
  v4 := Tryz.zeroValue4
  t23 := Tryz.underlying162
  a23 := Tryz.isAgg162
  z23 := Tryz.sizeOf162
  v23 := Tryz.zeroValue162
  t26 := Tryz.underlying3
  a26 := Tryz.isAgg3
  z26 := Tryz.sizeOf3
  v26 := Tryz.zeroValue3
  t27 := Tryz.underlying164
  a27 := Tryz.isAgg164
  z27 := Tryz.sizeOf164
  v27 := Tryz.zeroValue164
  t28 := Tryz.underlying165
  a28 := Tryz.isAgg165
  z28 := Tryz.sizeOf165
  v28 := Tryz.zeroValue165
  t33 := Tryz.underlying87
  a33 := Tryz.isAgg87
  z33 := Tryz.sizeOf87
  v33 := Tryz.zeroValue87 }
def Tryz.sortedA_ren : Go.Shelf.Ren := ⟨fun | 6 => 71 | 8 => 107 | 9 => 74 | 11 => 141 | 13 => 110 | 12 => 109 | 23 => 150 | 24 => 151 | 14 => 142 | 15 => 143 | 16 => 144 | 17 => 145 | 18 => 146 | 19 => 147 | 20 => 76 | 21 => 148 | 22 => 149 | 25 => 170 | 26 => 171 | 27 => 172 | 28 => 173 | 29 => 174 | 30 => 111 | 31 => 188 | n => n, fun | 26 => 3 | 28 => 165 | 24 => 54 | 0 => 0 | 3 => 3 | 37 => 156 | 48 => 72 | 50 => 32 | 4 => 4 | 40 => 247 | 39 => 246 | 45 => 36 | 5 => 5 | 9 => 9 | 51 => 279 | 55 => 282 | 57 => 290 | 58 => 291 | 33 => 87 | n => n, fun | n => n⟩
theorem Tryz.sortedA : Go.Proofs.SlLaysZI.n6 Tryz.prog Tryz.sortedA_ren := {
  mixed := by kernel_rfl
  f6 := ⟨Tryz.f71.name, by decide, Tryz.func71.trans (congrArg some (by kernel_rfl))⟩
  f8 := ⟨Tryz.f107.name, by decide, Tryz.func107.trans (congrArg some (by kernel_rfl))⟩
  f11 := ⟨Tryz.f141.name, by decide, Tryz.func141.trans (congrArg some (by kernel_rfl))⟩
  t0 := Tryz.underlying0
  a0 := Tryz.isAgg0
  z0 := Tryz.sizeOf0
  v0 := Tryz.zeroValue0
  t24 := Tryz.underlying54
  a24 := Tryz.isAgg54
  z24 := Tryz.sizeOf54
  v24 := Tryz.zeroValue54
  t26 := Tryz.underlying3
  a26 := Tryz.isAgg3
  z26 := Tryz.sizeOf3
  v26 := Tryz.zeroValue3
  t28 := Tryz.underlying165
  a28 := Tryz.isAgg165
  z28 := Tryz.sizeOf165
  v28 := Tryz.zeroValue165
  i26 := by kernel_rfl }
def Tryz.sortA_ren : Go.Shelf.Ren := ⟨fun | 5 => 74 | 8 => 110 | 7 => 109 | 19 => 150 | 20 => 151 | 10 => 142 | 11 => 143 | 12 => 144 | 13 => 145 | 14 => 146 | 15 => 147 | 16 => 76 | 17 => 148 | 18 => 149 | 30 => 170 | 31 => 171 | 32 => 172 | 33 => 173 | 34 => 174 | 35 => 111 | 40 => 188 | n => n, fun | 23 => 54 | 25 => 3 | 3 => 3 | 32 => 156 | 22 => 54 | 0 => 0 | 44 => 72 | 46 => 32 | 4 => 4 | 36 => 247 | 35 => 246 | 41 => 36 | 5 => 5 | 9 => 9 | 53 => 279 | 57 => 282 | 63 => 290 | 64 => 291 | n => n, fun | n => n⟩
theorem Tryz.sortA : Go.Proofs.SlLaysM.n5 Tryz.prog Tryz.sortA_ren := {
  mixed := by kernel_rfl
  f5 := ⟨Tryz.f74.name, by decide, Tryz.func74.trans (congrArg some (by kernel_rfl))⟩
  f7 := ⟨Tryz.f109.name, by decide, Tryz.func109.trans (congrArg some (by kernel_rfl))⟩
  f8 := Tryz.func110.trans (congrArg some (by kernel_rfl))
  f10 := ⟨Tryz.f142.name, by decide, Tryz.func142.trans (congrArg some (by kernel_rfl))⟩
  f11 := ⟨Tryz.f143.name, by decide, Tryz.func143.trans (congrArg some (by kernel_rfl))⟩
  f12 := ⟨Tryz.f144.name, by decide, Tryz.func144.trans (congrArg some (by kernel_rfl))⟩
  f13 := ⟨Tryz.f145.name, by decide, Tryz.func145.trans (congrArg some (by kernel_rfl))⟩
  f14 := ⟨Tryz.f146.name, by decide, Tryz.func146.trans (congrArg some (by kernel_rfl))⟩
  f15 := ⟨Tryz.f147.name, by decide, Tryz.func147.trans (congrArg some (by kernel_rfl))⟩
  f16 := ⟨Tryz.f76.name, by decide, Tryz.func76.trans (congrArg some (by kernel_rfl))⟩
  f17 := ⟨Tryz.f148.name, by decide, Tryz.func148.trans (congrArg some (by kernel_rfl))⟩
  f18 := ⟨Tryz.f149.name, by decide, Tryz.func149.trans (congrArg some (by kernel_rfl))⟩
  f19 := Tryz.func150.trans (congrArg some (by kernel_rfl))
  f20 := Tryz.func151.trans (congrArg some (by kernel_rfl))
  f30 := ⟨Tryz.f170.name, by decide, Tryz.func170.trans (congrArg some (by kernel_rfl))⟩
  f31 := Tryz.func171.trans (congrArg some (by kernel_rfl))
  f32 := Tryz.func172.trans (congrArg some (by kernel_rfl))
  f33 := ⟨Tryz.f173.name, by decide, Tryz.func173.trans (congrArg some (by kernel_rfl))⟩
  f34 := ⟨Tryz.f174.name, by decide, Tryz.func174.trans (congrArg some (by kernel_rfl))⟩
  f35 := ⟨Tryz.f111.name, by decide, Tryz.func111.trans (congrArg some (by kernel_rfl))⟩
  f40 := ⟨Tryz.f188.name, by decide, Tryz.func188.trans (congrArg some (by kernel_rfl))⟩
  t0 := Tryz.underlying0
  a0 := Tryz.isAgg0
  z0 := Tryz.sizeOf0
  v0 := Tryz.zeroValue0
  t3 := Tryz.underlying3
  a3 := Tryz.isAgg3
  z3 := Tryz.sizeOf3
  v3 := Tryz.zeroValue3
  t4 := Tryz.underlying4
  a4 := Tryz.isAgg4
  z4 := Tryz.sizeOf4
  v4 := Tryz.zeroValue4
  t5 := Tryz.underlying5
  a5 := Tryz.isAgg5
  z5 := Tryz.sizeOf5
  v5 := Tryz.zeroValue5
  t9 := Tryz.underlying9
  a9 := Tryz.isAgg9
  z9 := Tryz.sizeOf9
  v9 := Tryz.zeroValue9
  t22 := Tryz.underlying54
  a22 := Tryz.isAgg54
  z22 := Tryz.sizeOf54
  v22 := Tryz.zeroValue54
  t23 := Tryz.underlying54
  a23 := Tryz.isAgg54
  z23 := Tryz.sizeOf54
  v23 := Tryz.zeroValue54
  t25 := Tryz.underlying3
  a25 := Tryz.isAgg3
  z25 := Tryz.sizeOf3
  v25 := Tryz.zeroValue3
  t32 := Tryz.underlying156
  a32 := Tryz.isAgg156
  z32 := Tryz.sizeOf156
  v32 := Tryz.zeroValue156
  t35 := Tryz.underlying246
  a35 := Tryz.isAgg246
  z35 := Tryz.sizeOf246
  v35 := Tryz.zeroValue246
  t36 := Tryz.underlying247
  a36 := Tryz.isAgg247
  z36 := Tryz.sizeOf247
  v36 := Tryz.zeroValue247
  t41 := Tryz.underlying36
  a41 := Tryz.isAgg36
  z41 := Tryz.sizeOf36
  v41 := Tryz.zeroValue36
  t44 := Tryz.underlying72
  a44 := Tryz.isAgg72
  z44 := Tryz.sizeOf72
  v44 := Tryz.zeroValue72
  t46 := Tryz.underlying32
  a46 := Tryz.isAgg32
  z46 := Tryz.sizeOf32
  v46 := Tryz.zeroValue32
  t53 := Tryz.underlying279
  a53 := Tryz.isAgg279
  z53 := Tryz.sizeOf279
  v53 := Tryz.zeroValue279
  t57 := Tryz.underlying282
  a57 := Tryz.isAgg282
  z57 := Tryz.sizeOf282
  v57 := Tryz.zeroValue282
  t63 := Tryz.underlying290
  a63 := Tryz.isAgg290
  z63 := Tryz.sizeOf290
  v63 := Tryz.zeroValue290
  t64 := Tryz.underlying291
  a64 := Tryz.isAgg291
  z64 := Tryz.sizeOf291
  v64 := Tryz.zeroValue291 }
end Go.Proofs
