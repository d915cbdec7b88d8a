/- A unit of memory: its leaf of an address. No condition. -/
import Derived.Test.YtleilfkcjollaaaGreatGq
import Derived.Test.YtleilfkcjollaaaGreatGm
import Derived.Test.YtleilfkcjollaaaGreatGj
import Derived.Deep.DeepCutAuto
import Derived.Test.YtleilfkcjollaaaGreatGd
set_option linter.unusedVariables false
set_option linter.unusedSimpArgs false
namespace Go.Proofs.YtleilfkcjollaaaGreat
open Go.RowKit Go.RR
/-- A unit in block ub: its memory in mb, its buffer in bb. -/
structure MuAt (w : World) (SM SB : Nat → Prop) (ub mb bb : Nat) (u : Mu) : Prop where
  blk : Blk w ub #[.pointer (some ⟨mb, 0, none⟩), .pointer (some ⟨bb, 0, none⟩), .bool true, .int .i64 1, .int .u64 u.satp.ppn, .bool true, .bool false, .bool false] 202
  mem : MemAt w SM mb u.b u.fr
  tlb : TlbAt w SB bb u.tlb
  on : u.satp.on = true
  asid : u.satp.asid = 1
  mode : u.mode = UMode
  root : u.satp.ppn < 17592186044416
  fr : u.fr ≤ 1048576
  n1 : ¬ SM ub
  n2 : ¬ SB ub
  n3 : ∀ k, SM k → ¬ SB k
  n4 : ∀ k, SB k → k < w.heap.size
theorem Pte.zero_ok : Pte.zero.Ok := ⟨by decide, by decide, by decide⟩
/-- A leaf that may come of the buffer or the tables. -/
structure Leaf.Ok (l : Leaf) : Prop where
  lv : levelB l.level = true
  p : l.p.Ok
  pos : l.pos < 18446744073709551616
theorem TlbAt.ok {w : World} {S : Nat → Prop} {bb : Nat} {b : Tlb} (h : TlbAt w S bb b) (pg : Nat) : ∀ e ∈ tlbSet b pg, e.Ok := by
  obtain ⟨ob, cap, W, gs, cur, h⟩ := h
  have hl := h.l1
  intro e he
  unfold tlbSet at he
  rw [List.getD_eq_getElem?_getD, List.getElem?_eq_getElem (Nat.mod_lt _ (by omega))] at he
  exact (h.rows _ _ (List.getElem?_eq_getElem (Nat.mod_lt pg (by omega)))).2.2.2 e he
end Go.Proofs.YtleilfkcjollaaaGreat
