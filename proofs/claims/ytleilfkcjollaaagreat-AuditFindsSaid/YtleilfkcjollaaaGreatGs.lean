/- A unit of memory: the place of an access. No condition. A unit of memory: words read and stored. No condition. A unit of memory: a new one, its satp, its mode, its fence. No condition. -/
import Derived.Test.YtleilfkcjollaaaGreatGr
import Derived.Test.YtleilfkcjollaaaGreatGk
import Derived.Test.YtleilfkcjollaaaGreatGh
set_option linter.unusedVariables false
set_option linter.unusedSimpArgs false
namespace Go.Proofs.YtleilfkcjollaaaGreat
open Go.RowKit Go.RR
end Go.Proofs.YtleilfkcjollaaaGreat
set_option linter.unusedVariables false
set_option linter.unusedSimpArgs false
namespace Go.Proofs.YtleilfkcjollaaaGreat
open Go.RowKit Go.RR
theorem MuAt.step {SM SB : Nat → Prop} {w w1 w' : World} {ub mb bb : Nat} {u u1 : Mu} {b : By} (h : MuAt w SM SB ub mb bb u) (h1 : MuAt w1 SM SB ub mb bb u1) (c1 : Chg SB w w1) (hm : MemAt w' (Grow SM w1) mb b u1.fr) (c : Chg SM w1 w') :
    MuAt w' (Grow SM w) SB ub mb bb { u1 with b := b } ∧ Chg (fun k => SM k ∨ SB k) w w' := by
  refine ⟨⟨c.blk h1.blk h1.n1, hm.mono fun k _ e => e.elim .inl fun e => .inr (Nat.le_trans c1.size e), h1.tlb.chg c fun k hk e => h1.n3 k e hk, h1.on, h1.asid, h1.mode, h1.root, h1.fr, fun e => e.elim h.n1 fun e => by have := h.blk.lt; omega, h1.n2, fun k e hk => e.elim (fun e => h.n3 k e hk) fun e => by have := h.n4 k hk; omega, fun k hk => Nat.lt_of_lt_of_le (h1.n4 k hk) c.size⟩, ?_⟩
  exact (c1.mono (S' := fun k => SM k ∨ SB k) fun _ _ e => .inr e).trans c fun k _ e => .inl e
end Go.Proofs.YtleilfkcjollaaaGreat
set_option linter.unusedVariables false
set_option linter.unusedSimpArgs false
namespace Go.Proofs.YtleilfkcjollaaaGreat
open Go.RowKit Go.RR
set_option maxRecDepth 100000 in
theorem unitNew_any (mb bb : Nat) (w : World) : Calls Tryz.prog 119 #[.pointer (some ⟨mb, 0, none⟩), .pointer (some ⟨bb, 0, none⟩)] w (RetW (.pointer (some ⟨w.heap.size, 0, none⟩)) fun w' => Blk w' w.heap.size #[.pointer (some ⟨mb, 0, none⟩), .pointer (some ⟨bb, 0, none⟩), .bool false, .int .i64 0, .int .u64 0, .bool false, .bool false, .bool false] 202 ∧ Chg NoB w w') := by
  have HX : Hid (Blk (w.alloc (.cells #[.pointer (some ⟨mb, 0, none⟩), .pointer (some ⟨bb, 0, none⟩), .bool false, .int .i64 0, .int .u64 0, .bool false, .bool false, .bool false] 202)) w.heap.size #[.pointer (some ⟨mb, 0, none⟩), .pointer (some ⟨bb, 0, none⟩), .bool false, .int .i64 0, .int .u64 0, .bool false, .bool false, .bool false] 202 ∧ Chg NoB w (w.alloc (.cells #[.pointer (some ⟨mb, 0, none⟩), .pointer (some ⟨bb, 0, none⟩), .bool false, .int .i64 0, .int .u64 0, .bool false, .bool false, .bool false] 202))) := Lib.hid ⟨Blk.new _ _ _, (Chg.refl NoB w).alloc _⟩
  go_enter Tryz.func119, Tryz.ntmps119
  go_wp2_with fail
  go_ret
  exact ⟨rfl, HX.out⟩
set_option maxRecDepth 100000 in
theorem unitSatp_any {w : World} {ub mb bb : Nat} (hb : Blk w ub #[.pointer (some ⟨mb, 0, none⟩), .pointer (some ⟨bb, 0, none⟩), .bool false, .int .i64 0, .int .u64 0, .bool false, .bool false, .bool false] 202) (root : Nat) (hr : root < 17592186044416) :
    Calls Tryz.prog 123 #[.pointer (some ⟨ub, 0, none⟩), .int .u64 (satpW ⟨true, 1, root⟩)] w (RetW (.bool true) fun w' => Blk w' ub #[.pointer (some ⟨mb, 0, none⟩), .pointer (some ⟨bb, 0, none⟩), .bool true, .int .i64 1, .int .u64 root, .bool false, .bool false, .bool false] 202 ∧ Chg (fun k => k = ub) w w') := by
  have HG := Lib.hid fun w' => getSatp_any ⟨true, 1, root⟩ ⟨by show (0 : Int) ≤ 1; decide, by show (1 : Int) < 65536; decide, hr⟩ rfl w'
  obtain ⟨W, hW⟩ : ∃ W, satpW ⟨true, 1, root⟩ = W := ⟨_, rfl⟩
  rw [hW] at HG ⊢
  clear hW
  dsimp only at HG
  have HB := Lib.hid hb
  have hlt := hb.lt
  go_enter Tryz.func123, Tryz.ntmps123
  go_wp2_with fail
  refine (HG.out _).mono ?_
  rintro e w1 ⟨rfl, C1⟩
  have B1 := C1.blk0 HB.out
  have HX := Lib.hid (And.intro ((((B1.set 2 (.bool true)).set 3 (.int .i64 1)).set 4 (.int .u64 root)).alloc (.cells #[.bool true, .int .i64 1, .int .u64 root] 198))
    (((((C1.mono (S' := fun k => k = ub) fun _ _ e => e.elim).setCell (a := ⟨ub, 2, none⟩) (.inl rfl) (.bool true)).setCell (a := ⟨ub, 3, none⟩) (.inl rfl) (.int .i64 1)).setCell (a := ⟨ub, 4, none⟩) (.inl rfl) (.int .u64 root)).alloc (.cells #[.bool true, .int .i64 1, .int .u64 root] 198)))
  have u2 := B1.cell' (i := 2) (v := .bool false) rfl
  have u3 := B1.cell' (i := 3) (v := .int .i64 0) rfl
  have u4 := B1.cell' (i := 4) (v := .int .u64 0) rfl
  have uf := B1.frozen
  have ul := B1.lt
  have une : ub ≠ w1.heap.size := Nat.ne_of_lt ul
  clear hb C1 B1
  go_wp2_with fail
  go_ret
  exact ⟨rfl, HX.out⟩
set_option maxRecDepth 100000 in
theorem unitMode_any {w : World} {ub mb bb root : Nat} (hb : Blk w ub #[.pointer (some ⟨mb, 0, none⟩), .pointer (some ⟨bb, 0, none⟩), .bool true, .int .i64 1, .int .u64 root, .bool false, .bool false, .bool false] 202) :
    Calls Tryz.prog 126 #[.pointer (some ⟨ub, 0, none⟩), .agg #[.bool true, .bool false, .bool false]] w (RetW (.tuple #[]) fun w' => Blk w' ub #[.pointer (some ⟨mb, 0, none⟩), .pointer (some ⟨bb, 0, none⟩), .bool true, .int .i64 1, .int .u64 root, .bool true, .bool false, .bool false] 202 ∧ Chg (fun k => k = ub) w w') := by
  have HX := Lib.hid (And.intro ((((hb.set 5 (.bool true)).set 6 (.bool false)).set 7 (.bool false)).alloc (.cells #[.bool true, .bool false, .bool false] 200))
    (((((Chg.refl (fun k => k = ub) w).setCell (a := ⟨ub, 5, none⟩) (.inl rfl) (.bool true)).setCell (a := ⟨ub, 6, none⟩) (.inl rfl) (.bool false)).setCell (a := ⟨ub, 7, none⟩) (.inl rfl) (.bool false)).alloc (.cells #[.bool true, .bool false, .bool false] 200)))
  have u2 := hb.cell' (i := 5) (v := .bool false) rfl
  have u3 := hb.cell' (i := 6) (v := .bool false) rfl
  have u4 := hb.cell' (i := 7) (v := .bool false) rfl
  have uf := hb.frozen
  have ul := hb.lt
  have une : ub ≠ w.heap.size := Nat.ne_of_lt ul
  clear hb
  go_enter Tryz.func126, Tryz.ntmps126
  go_wp2_with fail
  go_end0
  exact ⟨rfl, HX.out⟩
set_option maxRecDepth 100000 in
theorem munit_fence {SM SB : Nat → Prop} {w : World} {ub mb bb : Nat} {u : Mu} (h : MuAt w SM SB ub mb bb u) (va vb : Nat) (hv : va < 18446744073709551616) (hc : w.cell? ⟨vb, 0, none⟩ = some (.int .u64 va)) (hn : ¬ SB vb) :
    Calls Tryz.prog 55 #[.pointer (some ⟨ub, 0, none⟩), .slice (some ⟨vb, 0, none⟩) 1 1, .slice none 0 0] w (RetV fun v w' => ∃ n : Int, v = .int .i64 n ∧ MuAt w' SM SB ub mb bb { u with tlb := tlbFence u.tlb va } ∧ Chg SB w w') := by
  have HF := Lib.hid (tlbFence_any h.tlb va vb hv hc hn)
  have u1 := h.blk.cell' (i := 1) (v := .pointer (some ⟨bb, 0, none⟩)) rfl
  have ul := h.blk.lt
  have HX : Hid (∀ w', TlbAt w' SB bb (tlbFence u.tlb va) → Chg SB w w' → MuAt w' SM SB ub mb bb { u with tlb := tlbFence u.tlb va } ∧ Chg SB w w') := Lib.hid (fun w' ht cs =>
    ⟨⟨cs.blk h.blk h.n2, h.mem.chg cs h.n3, ht, h.on, h.asid, h.mode, h.root, h.fr, h.n1, h.n2, h.n3, fun k hk => Nat.lt_of_lt_of_le (h.n4 k hk) cs.size⟩, cs⟩)
  clear h hc hv hn
  go_enter Tryz.func55, Tryz.ntmps55
  go_wp2_with fail
  refine HF.out.mono ?_
  rintro e w1 ⟨v, rfl, n, rfl, ht, cs⟩
  have HY := Lib.hid (HX.out _ ht cs)
  clear ht cs
  go_wp2_with fail
  go_ret
  exact ⟨_, rfl, n, rfl, HY.out⟩
end Go.Proofs.YtleilfkcjollaaaGreat
