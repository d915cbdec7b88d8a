/- Homes that talk: a known page's state. No condition. DERIVED: THE SHELF's CONTRACTS AT THIS DUMP, IN PLAIN WORDS (tools/lay-plain.mjs out of 'TryzShelf.lean', which tools/lay-shelf.mjs wrote): THE SAME DECLARATIONS UNDER THE SAME NAMES: 'import', 'namespace', 'open', 'def', 'theorem' AND NOTHING ELSE: no command of the shelf's: FOR A HAND-IN. Each laying: the table of numbers ('.._ren') and one theorem, a field a fact of the dump's own or the kernel's comparison; each contract: ONE APPLICATION. Homes that talk: the sorted numbers of the pages that a home knows. No condition. -/
import Derived.Test.YtdjaeoeejcmhdaaGreatDoorHx
import Derived.Test.YtdjaeoeejcmhdaaGreatDoorHc
import Derived.Shelf.Small.Utf8
import Derived.Ground.SlgmProg
import Derived.Shelf.SortM.Plain
import Derived.Shelf.SortM.SortNone
import Derived.Shelf.SlIterI.Nil
import Derived.Ground.GgzProg
import Derived.Test.YtdjaeoeejcmhdaaGreatDoorProg
import Derived.Maps.OwnOps
set_option linter.unusedVariables false
set_option linter.unusedSimpArgs false
namespace Go.Proofs.YtdjaeoeejcmhdaaGreatDoor
open Go.RowKit Go.RR
theorem hmn_page {w : World} {S : Nat → Prop} {hb spb : Nat} {me n pv sh num : Int} {ps : List (Int × Nat × PgS)} {pb : Nat} {st : PgS} (a : HmN w S hb spb me n pv sh ps) (hf : hLook ps num = some (pb, st)) : PgW w S pb me num st := by
  obtain ⟨R, r1, r2⟩ := a.pg
  obtain ⟨y1, y2, y3, y4⟩ := r1 _ (hLook_mem hf)
  exact ⟨y1, R pb, y2, y3, y4⟩
set_option maxHeartbeats 1000000 in
set_option maxRecDepth 100000 in
theorem hpage_kn {w : World} {S : Nat → Prop} {hb spb : Nat} {me n pv sh : Int} {ps : List (Int × Nat × PgS)} (a : HmN w S hb spb me n pv sh ps) (num : Int) (h0 : 0 ≤ num) (h1 : num < sh) {pb : Nat} {st : PgS} (hf : hLook ps num = some (pb, st)) :
    Calls Tryz.prog 20 #[.pointer (some ⟨hb, 0, none⟩), .int .i64 num] w (RetW (.pointer (some ⟨pb, 0, none⟩)) fun w' => w' = w) := by
  obtain ⟨mb, hmS, hB, hM, hSt⟩ := a.ex
  have e5 := hB.cell' (i := 5) (v := .int .i64 sh) rfl
  have e6 := hB.cell' (i := 6) (v := .map (some mb)) rfl
  have el := hB.lt
  have t0 : decide (num < 0) = false := decide_eq_false (by omega)
  have t1 : decide (sh ≤ num) = false := decide_eq_false (by omega)
  obtain ⟨i0, hi0, hz0, hz1, hz2⟩ := info_parts PPinfo3
  have hl := run_look1 (P := Tryz.prog) Tryz.underlying66 Tryz.underlying3 hi0 hz0 hM num
  rw [hlook2, hf] at hl
  simp only [Option.map_some, Option.getD_some] at hl
  clear a h0 h1 hi0 hz0 hz1 hz2 hf hB hM hSt hmS
  go_enter Tryz.func20, Tryz.ntmps20
  go_wp2_with fail
  go_ret
  exact ⟨rfl, rfl⟩
set_option maxHeartbeats 2000000 in
set_option maxRecDepth 100000 in
theorem hState_kn {w : World} {S : Nat → Prop} {hb spb : Nat} {me n pv sh : Int} {ps : List (Int × Nat × PgS)} (a : HmN w S hb spb me n pv sh ps) (num : Int) (h0 : 0 ≤ num) (h1 : num < sh) {pb : Nat} {st : PgS} (hf : hLook ps num = some (pb, st)) :
    Calls Tryz.prog 28 #[.pointer (some ⟨hb, 0, none⟩), .int .i64 num] w (RetW (.agg (stCe st)) fun w' => Chg NoB w w') := by
  have c0 := (Chg.refl NoB w).alloc (.cells #[.int .i64 0, .bool false, .int .i64 0, .int .u16 0, .int .i64 0, .int .u16 0, .bool false, .int .i64 0, .int .i64 0] 99)
  have HB := Lib.hid (Blk.new w #[.int .i64 0, .bool false, .int .i64 0, .int .u16 0, .int .i64 0, .int .u16 0, .bool false, .int .i64 0, .int .i64 0] 99)
  have HP := Lib.hid (hpage_kn (a.chg0 c0) num h0 h1 hf)
  have HS := Lib.hid (pState_w (hmn_page (a.chg0 c0) hf))
  obtain ⟨right, owner, prob, set, want, wait, held, forget⟩ := st
  have HC := Lib.hid c0
  clear a c0 h0 h1 hf
  go_enter Tryz.func28, Tryz.ntmps28
  go_wp2_with fail
  refine HP.out.mono ?_
  rintro e w1 ⟨rfl, hw⟩
  subst hw
  go_wp2_with fail
  refine HS.out.mono ?_
  rintro e w2 ⟨he, hC⟩
  have he : e = .returned (.agg #[.int .i64 right, .bool owner, .int .i64 prob, .int .u16 set, .int .i64 want, .int .u16 wait, .bool held, .int .i64 forget, .int .i64 0]) := he
  subst he
  have hB2 := hC.blk0 HB.out
  have k := hB2.cell
  have kz := hB2.frozen
  have kl := hB2.lt
  have HS2 := store_all hB2 [.int .i64 right, .bool owner, .int .i64 prob, .int .u16 set, .int .i64 want, .int .u16 wait, .bool held, .int .i64 forget, .int .i64 0] rfl
  have HF : Hid (Chg NoB w (w2.setCells w.heap.size 0 [.int .i64 right, .bool owner, .int .i64 prob, .int .u16 set, .int .i64 want, .int .u16 wait, .bool held, .int .i64 forget, .int .i64 0])) := Lib.hid ((HC.out.step hC).trans HS2.2 fun k hk e => by have e : k = w.heap.size := e; omega)
  obtain ⟨w5, hw5⟩ : ∃ x, w2.setCells w.heap.size 0 [.int .i64 right, .bool owner, .int .i64 prob, .int .u16 set, .int .i64 want, .int .u16 wait, .bool held, .int .i64 forget, .int .i64 0] = x := ⟨_, rfl⟩
  rw [hw5] at HF HS2
  replace hw5 : (((((((((w2.setCell ⟨w.heap.size, 0, none⟩ (.int .i64 right)).setCell ⟨w.heap.size, 1, none⟩ (.bool owner)).setCell ⟨w.heap.size, 2, none⟩ (.int .i64 prob)).setCell ⟨w.heap.size, 3, none⟩ (.int .u16 set)).setCell ⟨w.heap.size, 4, none⟩ (.int .i64 want)).setCell ⟨w.heap.size, 5, none⟩ (.int .u16 wait)).setCell ⟨w.heap.size, 6, none⟩ (.bool held)).setCell ⟨w.heap.size, 7, none⟩ (.int .i64 forget)).setCell ⟨w.heap.size, 8, none⟩ (.int .i64 0)) = w5 := hw5
  have q := HS2.1.cell
  have ql := HS2.1.lt
  clear hC hB2 HS2
  go_wp2_with fail
  exact bodyPost_ret (v := .agg #[.int .i64 right, .bool owner, .int .i64 prob, .int .u16 set, .int .i64 want, .int .u16 wait, .bool held, .int .i64 forget, .int .i64 0]) (by simp [results, Tryz.results28, go_sem, q]) rfl ⟨rfl, HF.out⟩
end Go.Proofs.YtdjaeoeejcmhdaaGreatDoor
namespace Go.Proofs
open Go.Shelf
def Tryz.laysSlM5_f70_ren : Go.Shelf.Ren := ⟨fun | 5 => 70 | 8 => 113 | 7 => 112 | 19 => 156 | 20 => 157 | 10 => 147 | 11 => 148 | 12 => 149 | 13 => 150 | 14 => 151 | 15 => 152 | 16 => 153 | 17 => 154 | 18 => 155 | 30 => 170 | 31 => 171 | 32 => 172 | 33 => 173 | 34 => 174 | 35 => 175 | 40 => 179 | n => n, fun | 23 => 46 | 25 => 3 | 3 => 3 | 32 => 173 | 22 => 46 | 0 => 0 | 44 => 246 | 46 => 33 | 4 => 4 | 36 => 239 | 35 => 238 | 41 => 65 | 5 => 5 | 9 => 9 | 53 => 263 | 57 => 267 | 63 => 270 | 64 => 271 | n => n, fun | n => n⟩
theorem Tryz.laysSlM5_f70 : Go.Proofs.SlLaysM.n5 Tryz.prog Tryz.laysSlM5_f70_ren := {
  mixed := by kernel_rfl
  f5 := ⟨Tryz.f70.name, by decide, Tryz.func70.trans (congrArg some (by kernel_rfl))⟩
  f7 := ⟨Tryz.f112.name, by decide, Tryz.func112.trans (congrArg some (by kernel_rfl))⟩
  f8 := Tryz.func113.trans (congrArg some (by kernel_rfl))
  f10 := ⟨Tryz.f147.name, by decide, Tryz.func147.trans (congrArg some (by kernel_rfl))⟩
  f11 := ⟨Tryz.f148.name, by decide, Tryz.func148.trans (congrArg some (by kernel_rfl))⟩
  f12 := ⟨Tryz.f149.name, by decide, Tryz.func149.trans (congrArg some (by kernel_rfl))⟩
  f13 := ⟨Tryz.f150.name, by decide, Tryz.func150.trans (congrArg some (by kernel_rfl))⟩
  f14 := ⟨Tryz.f151.name, by decide, Tryz.func151.trans (congrArg some (by kernel_rfl))⟩
  f15 := ⟨Tryz.f152.name, by decide, Tryz.func152.trans (congrArg some (by kernel_rfl))⟩
  f16 := ⟨Tryz.f153.name, by decide, Tryz.func153.trans (congrArg some (by kernel_rfl))⟩
  f17 := ⟨Tryz.f154.name, by decide, Tryz.func154.trans (congrArg some (by kernel_rfl))⟩
  f18 := ⟨Tryz.f155.name, by decide, Tryz.func155.trans (congrArg some (by kernel_rfl))⟩
  f19 := Tryz.func156.trans (congrArg some (by kernel_rfl))
  f20 := Tryz.func157.trans (congrArg some (by kernel_rfl))
  f30 := ⟨Tryz.f170.name, by decide, Tryz.func170.trans (congrArg some (by kernel_rfl))⟩
  f31 := Tryz.func171.trans (congrArg some (by kernel_rfl))
  f32 := Tryz.func172.trans (congrArg some (by kernel_rfl))
  f33 := ⟨Tryz.f173.name, by decide, Tryz.func173.trans (congrArg some (by kernel_rfl))⟩
  f34 := ⟨Tryz.f174.name, by decide, Tryz.func174.trans (congrArg some (by kernel_rfl))⟩
  f35 := ⟨Tryz.f175.name, by decide, Tryz.func175.trans (congrArg some (by kernel_rfl))⟩
  f40 := ⟨Tryz.f179.name, by decide, Tryz.func179.trans (congrArg some (by kernel_rfl))⟩
  t0 := Tryz.underlying0
  a0 := Tryz.isAgg0
  z0 := Tryz.sizeOf0
  v0 := Tryz.zeroValue0
  t3 := Tryz.underlying3
  a3 := Tryz.isAgg3
  z3 := Tryz.sizeOf3
  v3 := Tryz.zeroValue3
  t4 := Tryz.underlying4
  a4 := Tryz.isAgg4
  z4 := Tryz.sizeOf4
  v4 := Tryz.zeroValue4
  t5 := Tryz.underlying5
  a5 := Tryz.isAgg5
  z5 := Tryz.sizeOf5
  v5 := Tryz.zeroValue5
  t9 := Tryz.underlying9
  a9 := Tryz.isAgg9
  z9 := Tryz.sizeOf9
  v9 := Tryz.zeroValue9
  t22 := Tryz.underlying46
  a22 := Tryz.isAgg46
  z22 := Tryz.sizeOf46
  v22 := Tryz.zeroValue46
  t23 := Tryz.underlying46
  a23 := Tryz.isAgg46
  z23 := Tryz.sizeOf46
  v23 := Tryz.zeroValue46
  t25 := Tryz.underlying3
  a25 := Tryz.isAgg3
  z25 := Tryz.sizeOf3
  v25 := Tryz.zeroValue3
  t32 := Tryz.underlying173
  a32 := Tryz.isAgg173
  z32 := Tryz.sizeOf173
  v32 := Tryz.zeroValue173
  t35 := Tryz.underlying238
  a35 := Tryz.isAgg238
  z35 := Tryz.sizeOf238
  v35 := Tryz.zeroValue238
  t36 := Tryz.underlying239
  a36 := Tryz.isAgg239
  z36 := Tryz.sizeOf239
  v36 := Tryz.zeroValue239
  t41 := Tryz.underlying65
  a41 := Tryz.isAgg65
  z41 := Tryz.sizeOf65
  v41 := Tryz.zeroValue65
  t44 := Tryz.underlying246
  a44 := Tryz.isAgg246
  z44 := Tryz.sizeOf246
  v44 := Tryz.zeroValue246
  t46 := Tryz.underlying33
  a46 := Tryz.isAgg33
  z46 := Tryz.sizeOf33
  v46 := Tryz.zeroValue33
  t53 := Tryz.underlying263
  a53 := Tryz.isAgg263
  z53 := Tryz.sizeOf263
  v53 := Tryz.zeroValue263
  t57 := Tryz.underlying267
  a57 := Tryz.isAgg267
  z57 := Tryz.sizeOf267
  v57 := Tryz.zeroValue267
  t63 := Tryz.underlying270
  a63 := Tryz.isAgg270
  z63 := Tryz.sizeOf270
  v63 := Tryz.zeroValue270
  t64 := Tryz.underlying271
  a64 := Tryz.isAgg271
  z64 := Tryz.sizeOf271
  v64 := Tryz.zeroValue271 }
open Go.Sort Go.RowKit in
theorem Tryz.slices_Sort_int (blk off cap : Nat) (zs : List Int) (w : World) (hH : Holds (Value.int .i64) w blk off zs.toArray) (hblk : blk < w.heap.size) (hsz : zs.length < 4611686018427387904) :
    Calls Tryz.prog 70 #[.slice (some ⟨blk, off, none⟩) zs.length cap] w fun e w' =>
      e = .returned (.tuple #[]) ∧ ∃ n os, w' = grow (putRow (Value.int .i64) (Sort.ahead w n) blk off (zs.mergeSort fun x y => decide (x ≤ y)).toArray) os := AnyM.slices_Sort_int Tryz.laysSlM5_f70 blk off cap zs w hH hblk hsz
open Go.RowKit Go.Sort in
/-- .. and plain. (LAID AT THE INSTANCE 'slices.Sort[[]int,int]': no walk: one application.) -/
theorem Tryz.slices_Sort_int_none (p : Option Addr) (cap : Nat) (w : World) :
    Calls Tryz.prog 70 #[.slice p 0 cap] w fun e w' => e = .returned (.tuple #[]) ∧ w' = w := AnyM.slices_Sort_int_none Tryz.laysSlM5_f70 p cap w
def Tryz.keysA_ren : Go.Shelf.Ren := ⟨fun | 7 => 27 | 10 => 71 | n => n, fun | 23 => 66 | 26 => 3 | 3 => 74 | 28 => 96 | 0 => 0 | 27 => 95 | 33 => 153 | 4 => 4 | n => n, fun | n => n⟩
theorem Tryz.keysA : Go.Proofs.SlLaysZI.n7 Tryz.prog Tryz.keysA_ren := {
  mixed := by kernel_rfl
  f7 := ⟨Tryz.f27.name, by decide, Tryz.func27.trans (congrArg some (by kernel_rfl))⟩
  f10 := ⟨Tryz.f71.name, by decide, Tryz.func71.trans (congrArg some (by kernel_rfl))⟩
  t0 := Tryz.underlying0
  a0 := Tryz.isAgg0
  z0 := Tryz.sizeOf0
  v0 := Tryz.zeroValue0
  t4 := Tryz.underlying4
  a4 := Tryz.isAgg4
  z4 := Tryz.sizeOf4
  v4 := Tryz.zeroValue4
  t23 := Tryz.underlying66
  a23 := Tryz.isAgg66
  z23 := Tryz.sizeOf66
  v23 := Tryz.zeroValue66
  t26 := Tryz.underlying3
  a26 := Tryz.isAgg3
  z26 := Tryz.sizeOf3
  v26 := Tryz.zeroValue3
  t27 := Tryz.underlying95
  a27 := Tryz.isAgg95
  z27 := Tryz.sizeOf95
  v27 := Tryz.zeroValue95
  t28 := Tryz.underlying96
  a28 := Tryz.isAgg96
  z28 := Tryz.sizeOf96
  v28 := Tryz.zeroValue96
  t33 := Tryz.underlying153
  a33 := Tryz.isAgg153
  z33 := Tryz.sizeOf153
  v33 := Tryz.zeroValue153 }
def Tryz.sortedA_ren : Go.Shelf.Ren := ⟨fun | 6 => 26 | 8 => 69 | 9 => 70 | 11 => 111 | 13 => 113 | 12 => 112 | 23 => 156 | 24 => 157 | 14 => 147 | 15 => 148 | 16 => 149 | 17 => 150 | 18 => 151 | 19 => 152 | 20 => 153 | 21 => 154 | 22 => 155 | 25 => 170 | 26 => 171 | 27 => 172 | 28 => 173 | 29 => 174 | 30 => 175 | 31 => 179 | n => n, fun | 26 => 3 | 28 => 96 | 24 => 46 | 0 => 0 | 3 => 3 | 37 => 173 | 48 => 246 | 50 => 33 | 4 => 4 | 40 => 239 | 39 => 238 | 45 => 65 | 5 => 5 | 9 => 9 | 51 => 263 | 55 => 267 | 57 => 270 | 58 => 271 | 33 => 153 | n => n, fun | n => n⟩
theorem Tryz.sortedA : Go.Proofs.SlLaysZI.n6 Tryz.prog Tryz.sortedA_ren := {
  mixed := by kernel_rfl
  f6 := ⟨Tryz.f26.name, by decide, Tryz.func26.trans (congrArg some (by kernel_rfl))⟩
  f8 := ⟨Tryz.f69.name, by decide, Tryz.func69.trans (congrArg some (by kernel_rfl))⟩
  f11 := ⟨Tryz.f111.name, by decide, Tryz.func111.trans (congrArg some (by kernel_rfl))⟩
  t0 := Tryz.underlying0
  a0 := Tryz.isAgg0
  z0 := Tryz.sizeOf0
  v0 := Tryz.zeroValue0
  t24 := Tryz.underlying46
  a24 := Tryz.isAgg46
  z24 := Tryz.sizeOf46
  v24 := Tryz.zeroValue46
  t26 := Tryz.underlying3
  a26 := Tryz.isAgg3
  z26 := Tryz.sizeOf3
  v26 := Tryz.zeroValue3
  t28 := Tryz.underlying96
  a28 := Tryz.isAgg96
  z28 := Tryz.sizeOf96
  v28 := Tryz.zeroValue96
  i26 := by kernel_rfl }
def Tryz.sortA_ren : Go.Shelf.Ren := ⟨fun | 5 => 70 | 8 => 113 | 7 => 112 | 19 => 156 | 20 => 157 | 10 => 147 | 11 => 148 | 12 => 149 | 13 => 150 | 14 => 151 | 15 => 152 | 16 => 153 | 17 => 154 | 18 => 155 | 30 => 170 | 31 => 171 | 32 => 172 | 33 => 173 | 34 => 174 | 35 => 175 | 40 => 179 | n => n, fun | 23 => 46 | 25 => 3 | 3 => 3 | 32 => 173 | 22 => 46 | 0 => 0 | 44 => 246 | 46 => 33 | 4 => 4 | 36 => 239 | 35 => 238 | 41 => 65 | 5 => 5 | 9 => 9 | 53 => 263 | 57 => 267 | 63 => 270 | 64 => 271 | n => n, fun | n => n⟩
theorem Tryz.sortA : Go.Proofs.SlLaysM.n5 Tryz.prog Tryz.sortA_ren := {
  mixed := by kernel_rfl
  f5 := ⟨Tryz.f70.name, by decide, Tryz.func70.trans (congrArg some (by kernel_rfl))⟩
  f7 := ⟨Tryz.f112.name, by decide, Tryz.func112.trans (congrArg some (by kernel_rfl))⟩
  f8 := Tryz.func113.trans (congrArg some (by kernel_rfl))
  f10 := ⟨Tryz.f147.name, by decide, Tryz.func147.trans (congrArg some (by kernel_rfl))⟩
  f11 := ⟨Tryz.f148.name, by decide, Tryz.func148.trans (congrArg some (by kernel_rfl))⟩
  f12 := ⟨Tryz.f149.name, by decide, Tryz.func149.trans (congrArg some (by kernel_rfl))⟩
  f13 := ⟨Tryz.f150.name, by decide, Tryz.func150.trans (congrArg some (by kernel_rfl))⟩
  f14 := ⟨Tryz.f151.name, by decide, Tryz.func151.trans (congrArg some (by kernel_rfl))⟩
  f15 := ⟨Tryz.f152.name, by decide, Tryz.func152.trans (congrArg some (by kernel_rfl))⟩
  f16 := ⟨Tryz.f153.name, by decide, Tryz.func153.trans (congrArg some (by kernel_rfl))⟩
  f17 := ⟨Tryz.f154.name, by decide, Tryz.func154.trans (congrArg some (by kernel_rfl))⟩
  f18 := ⟨Tryz.f155.name, by decide, Tryz.func155.trans (congrArg some (by kernel_rfl))⟩
  f19 := Tryz.func156.trans (congrArg some (by kernel_rfl))
  f20 := Tryz.func157.trans (congrArg some (by kernel_rfl))
  f30 := ⟨Tryz.f170.name, by decide, Tryz.func170.trans (congrArg some (by kernel_rfl))⟩
  f31 := Tryz.func171.trans (congrArg some (by kernel_rfl))
  f32 := Tryz.func172.trans (congrArg some (by kernel_rfl))
  f33 := ⟨Tryz.f173.name, by decide, Tryz.func173.trans (congrArg some (by kernel_rfl))⟩
  f34 := ⟨Tryz.f174.name, by decide, Tryz.func174.trans (congrArg some (by kernel_rfl))⟩
  f35 := ⟨Tryz.f175.name, by decide, Tryz.func175.trans (congrArg some (by kernel_rfl))⟩
  f40 := ⟨Tryz.f179.name, by decide, Tryz.func179.trans (congrArg some (by kernel_rfl))⟩
  t0 := Tryz.underlying0
  a0 := Tryz.isAgg0
  z0 := Tryz.sizeOf0
  v0 := Tryz.zeroValue0
  t3 := Tryz.underlying3
  a3 := Tryz.isAgg3
  z3 := Tryz.sizeOf3
  v3 := Tryz.zeroValue3
  t4 := Tryz.underlying4
  a4 := Tryz.isAgg4
  z4 := Tryz.sizeOf4
  v4 := Tryz.zeroValue4
  t5 := Tryz.underlying5
  a5 := Tryz.isAgg5
  z5 := Tryz.sizeOf5
  v5 := Tryz.zeroValue5
  t9 := Tryz.underlying9
  a9 := Tryz.isAgg9
  z9 := Tryz.sizeOf9
  v9 := Tryz.zeroValue9
  t22 := Tryz.underlying46
  a22 := Tryz.isAgg46
  z22 := Tryz.sizeOf46
  v22 := Tryz.zeroValue46
  t23 := Tryz.underlying46
  a23 := Tryz.isAgg46
  z23 := Tryz.sizeOf46
  v23 := Tryz.zeroValue46
  t25 := Tryz.underlying3
  a25 := Tryz.isAgg3
  z25 := Tryz.sizeOf3
  v25 := Tryz.zeroValue3
  t32 := Tryz.underlying173
  a32 := Tryz.isAgg173
  z32 := Tryz.sizeOf173
  v32 := Tryz.zeroValue173
  t35 := Tryz.underlying238
  a35 := Tryz.isAgg238
  z35 := Tryz.sizeOf238
  v35 := Tryz.zeroValue238
  t36 := Tryz.underlying239
  a36 := Tryz.isAgg239
  z36 := Tryz.sizeOf239
  v36 := Tryz.zeroValue239
  t41 := Tryz.underlying65
  a41 := Tryz.isAgg65
  z41 := Tryz.sizeOf65
  v41 := Tryz.zeroValue65
  t44 := Tryz.underlying246
  a44 := Tryz.isAgg246
  z44 := Tryz.sizeOf246
  v44 := Tryz.zeroValue246
  t46 := Tryz.underlying33
  a46 := Tryz.isAgg33
  z46 := Tryz.sizeOf33
  v46 := Tryz.zeroValue33
  t53 := Tryz.underlying263
  a53 := Tryz.isAgg263
  z53 := Tryz.sizeOf263
  v53 := Tryz.zeroValue263
  t57 := Tryz.underlying267
  a57 := Tryz.isAgg267
  z57 := Tryz.sizeOf267
  v57 := Tryz.zeroValue267
  t63 := Tryz.underlying270
  a63 := Tryz.isAgg270
  z63 := Tryz.sizeOf270
  v63 := Tryz.zeroValue270
  t64 := Tryz.underlying271
  a64 := Tryz.isAgg271
  z64 := Tryz.sizeOf271
  v64 := Tryz.zeroValue271 }
end Go.Proofs
set_option linter.unusedVariables false
set_option linter.unusedSimpArgs false
set_option linter.unusedSectionVars false
namespace Go.Proofs.YtdjaeoeejcmhdaaGreatDoor
open Go.RowKit Go.RR Go.Maps Go.Sort Go.Shelf
theorem Chg.of_below {w w' : World} (h : Below w.heap.size w w') : Chg NoB w w' := ⟨h.os, h.tape, h.output, h.size, fun k hk _ => h.block k hk⟩
theorem ins_perm {H : Type} (x : Lit × DataW H) : ∀ l : List (Lit × DataW H), (DataW.insert x l).Perm (x :: l)
  | [] => List.Perm.refl _
  | y :: r => by
    unfold DataW.insert
    split
    · exact List.Perm.refl _
    · exact ((ins_perm x r).cons y).trans (List.Perm.swap x y r)
theorem foldr_perm {H : Type} : ∀ l : List (Lit × DataW H), (l.foldr DataW.insert []).Perm l
  | [] => List.Perm.refl _
  | x :: l => (ins_perm x _).trans ((foldr_perm l).cons x)
theorem int_wf {x : Int} (h0 : 0 ≤ x) (h1 : x ≤ 1000000) : (Lit.int .i64 x).wf = true := by
  have := IntKind.wrap_i64 x
  have h : IntKind.i64.wrap x = x := by omega
  have hm : IntKind.i64.min = -9223372036854775808 := rfl
  simp [Lit.wf, h]
  omega
theorem keys_call (mb : Option Nat) (w : World) : Calls Tryz.prog 27 #[.map mb] w fun e w' => e = .returned (.func (.func 71) #[] #[.pointer (some ⟨w.heap.size, 0, none⟩)]) ∧ w' = w.alloc (.cells #[.map mb] 66) :=
  callsIn_wide.1 (AnyZI.keys_in Tryz.keysA Fence.wide 5 trivial rfl mb w)
theorem sortsIn (m : Nat) : AnyZI.SortsIn Tryz.prog Tryz.sortedA_ren Fence.wide m :=
  ⟨fun blk off cap ss W hH hblk hsz => callsIn_wide.2 (AnyM.slices_Sort_int Tryz.sortA blk off cap ss W hH hblk hsz),
   fun p cap W => callsIn_wide.2 (AnyM.slices_Sort_int_none Tryz.sortA p cap W)⟩
def anyR (_ : Value) : Option (DataW Unit × List MemPlace) := some (.nil, [])
def intOf : Value → Int | .int _ q => q | _ => 0
/-- A home's map as the library reads it. -/
theorem hmn_owns {w : World} {mb : Nat} {ps : List (Int × Nat × PgS)} (h : MapAt w mb .i64 (ps.map fun p => (p.1, .pointer (some ⟨p.2.1, 0, none⟩)))) (hst' : Stm w mb) (kn : ∀ p ∈ ps, 0 ≤ p.1 ∧ p.1 < 2) (hl : ps.length ≤ 1000) :
    ∃ (n : Nat) (es : List (Lit × DataW Unit)), n ≤ 1000 ∧ es.length ≤ n ∧ w.ownsMap Tryz.prog 3 anyR mb n (.map es) ∧ (intKeys (.map es : DataW Unit)).Perm (ps.map (·.1)) := by
  obtain ⟨es, c, h1, h2⟩ := h
  obtain ⟨es', c', h1', hst⟩ := hst'
  rw [h1] at h1'
  cases h1'
  have hkey : ∀ x ∈ es.toList, ∃ q : Int, x.key = .int .i64 q ∧ 0 ≤ q ∧ q < 2 := fun x hx => by
    have hx2 : (x.key, x.val) ∈ es.toList.map (fun e => (e.key, e.val)) := List.mem_map.2 ⟨x, hx, rfl⟩
    rw [h2, List.map_map] at hx2
    obtain ⟨q, hq, hq2⟩ := List.mem_map.1 hx2
    exact ⟨q.1, (congrArg Prod.fst hq2).symm, kn q hq⟩
  have hrd : ∀ x ∈ es.toList, ∃ q : Int, WideElems.rd Tryz.prog 3 anyR x = some (.int .i64 q, .nil) ∧ x.key = .int .i64 q ∧ 0 ≤ q ∧ q < 2 := fun x hx => by
    obtain ⟨q, hq, h3, h4⟩ := hkey x hx
    refine ⟨q, ?_, hq, h3, h4⟩
    unfold WideElems.rd
    rw [hq, Maps.keyOf_int_mk Tryz.underlying3 (int_wf h3 (by omega))]
    rfl
  have hlen : es.size = ps.length := by have := congrArg List.length h2; simpa using this
  refine ⟨es.size, (es.toList.map (WideElems.rg Tryz.prog 3 anyR)).foldr DataW.insert [], by omega, ?_, ⟨es, c, h1, ⟨by unfold maxLen; omega, hst, fun x hx => ?_⟩, Nat.le_refl _, rfl⟩, ?_⟩
  · rw [(foldr_perm _).length_eq, List.length_map, Array.length_toList]
    exact Nat.le_refl _
  · obtain ⟨q, hq, -⟩ := hrd x hx
    exact ⟨_, hq⟩
  · have e2 : es.toList.map (fun e => intOf e.key) = ps.map (·.1) := by
      have := congrArg (List.map fun x : Value × Value => intOf x.1) h2
      simp only [List.map_map] at this
      exact this
    rw [← e2]
    refine ((foldr_perm _).map _).trans ?_
    rw [List.map_map]
    refine List.Perm.of_eq (List.map_congr_left fun x hx => ?_)
    obtain ⟨q, hq, h3, -⟩ := hrd x hx
    show _ = intOf x.key
    rw [h3]
    show _ = q
    simp only [Function.comp]
    rw [WideElems.rg_of hq]
    rfl
set_option maxHeartbeats 1000000 in
theorem hmn_sorted {w : World} {mb : Nat} {ps : List (Int × Nat × PgS)} (h : MapAt w mb .i64 (ps.map fun p => (p.1, .pointer (some ⟨p.2.1, 0, none⟩)))) (hst' : Stm w mb) (kn : ∀ p ∈ ps, 0 ≤ p.1 ∧ p.1 < 2) (hl : ps.length ≤ 1000) :
    Calls Tryz.prog 26 #[.func (.func 71) #[] #[.pointer (some ⟨w.heap.size, 0, none⟩)]] (w.alloc (.cells #[.map (some mb)] 66)) (RetSl fun v w' => ∃ ks : List Int, ks.Perm (ps.map (·.1)) ∧ Own w' (fun k => w.heap.size ≤ k) 3 1 v ks.length (ks.map (Value.int .i64)) ∧ Chg NoB w w') := by
  obtain ⟨n, es, hn, hle, how, hin⟩ := hmn_owns h hst' kn hl
  have hbl := how.lt
  have hsz : Maps.size (.map es : DataW Unit) ≤ n := hle
  have hseq : SeqGives Fence.wide 2 Tryz.prog 71 #[.pointer (some ⟨w.heap.size, 0, none⟩)] encZ (fun ss => ss.Perm (intKeys (.map es : DataW Unit))) (Maps.size (.map es : DataW Unit)) (w.alloc (.cells #[.map (some mb)] 66)) :=
    AnyZI.keys_gives (ρ := Tryz.keysA_ren) { Tryz.keysA with } Fence.wide _ trivial rfl (by omega) w.heap.size mb n (.map es) _ (by simp) (by simp) (by
      obtain ⟨er, cl, hb', Ft', hs', hD'⟩ := how
      exact ⟨er, cl, (Below.heap_alloc _ _ mb hbl).trans hb', Ft', hs', hD'⟩)
  have cS := AnyZI.sorted_in Tryz.sortedA Fence.wide 5 trivial trivial trivial trivial rfl (by omega) (sortsIn _) (enters_of Tryz.func70 (by kernel_rfl) rfl) 71 #[.pointer (some ⟨w.heap.size, 0, none⟩)] trivial (enters_of Tryz.func71 (by kernel_rfl) rfl) _ _ (by unfold maxLen; omega) (by omega) _ hseq
  change CallsIn _ _ Tryz.prog 26 _ _ _ at cS
  refine (callsIn_wide.1 cS).mono ?_
  rintro e w' ⟨v, ss, rfl, hp, hrow, -, hbe⟩
  have hpm := List.mergeSort_perm ss (fun x y : Int => decide (x ≤ y))
  refine ⟨v, rfl, ss.mergeSort fun x y => decide (x ≤ y), (hpm.trans hp).trans hin, ?_, ?_⟩
  · rw [List.length_mergeSort]
    exact (Own.of_row hrow).mono fun k hk => by have := hk; simp at this; omega
  · exact ((Chg.refl NoB w).alloc _).step (Chg.of_below hbe)
end Go.Proofs.YtdjaeoeejcmhdaaGreatDoor
