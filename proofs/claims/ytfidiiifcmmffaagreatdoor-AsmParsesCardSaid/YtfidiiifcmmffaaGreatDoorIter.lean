/- A range over a text: the iterator's block may lie anywhere. No condition. -/
import Derived.Test.YtfidiiifcmmffaaGreatDoorKit2
import Derived.Laws.RangeString
set_option linter.unusedVariables false
set_option linter.unusedSimpArgs false
namespace Go.RR
open Go.RowKit

/-- The iterator in block b stands at pos. -/
def It (w : World) (b : Nat) (s : ByteArray) (pos : Nat) : Prop := w.heap[b]? = some (.stringIter s pos)
def setIt (w : World) (b : Nat) (s : ByteArray) (pos : Nat) : World := { w with heap := w.heap.setIfInBounds b (.stringIter s pos) }
theorem It.lt {w : World} {b : Nat} {s : ByteArray} {pos : Nat} (h : It w b s pos) : b < w.heap.size := (Array.getElem?_eq_some_iff.1 h).1
theorem It.new (w : World) (s : ByteArray) (pos : Nat) : It (w.iter s pos) w.heap.size s pos := World.iter_heap w s pos
theorem It.set {w : World} {b : Nat} {s : ByteArray} {pos : Nat} (h : It w b s pos) (pos' : Nat) : It (setIt w b s pos') b s pos' := by
  show (w.heap.setIfInBounds b _)[b]? = _
  rw [Array.getElem?_setIfInBounds_self_of_lt h.lt]
theorem It.chg {S : Nat → Prop} {w w' : World} {b : Nat} {s : ByteArray} {pos : Nat} (h : It w b s pos) (c : Chg S w w') (hn : ¬ S b) : It w' b s pos := (c.block b h.lt hn).trans h
theorem It.setCell {w : World} {b : Nat} {s : ByteArray} {pos : Nat} (h : It w b s pos) {a : Addr} (hn : b ≠ a.block) (v : Value) : It (w.setCell a v) b s pos := (heap_setCell_other w a b v hn).trans h
theorem It.drewN {w : World} {b : Nat} {s : ByteArray} {pos : Nat} (h : It w b s pos) (n : Nat) : It (w.drewN n) b s pos := h
theorem setIt_heap {w : World} {b k : Nat} {s : ByteArray} {pos : Nat} (h : k ≠ b) : (setIt w b s pos).heap[k]? = w.heap[k]? := by
  show (w.heap.setIfInBounds b _)[k]? = _
  rw [Array.getElem?_setIfInBounds_ne (fun e => h e.symm)]
theorem Chg.setIt {S : Nat → Prop} {w w' : World} (h : Chg S w w') {b : Nat} (hb : S b ∨ w.heap.size ≤ b) (s : ByteArray) (pos : Nat) : Chg S w (setIt w' b s pos) :=
  ⟨h.os, h.tape, h.output, by show _ ≤ (w'.heap.setIfInBounds b _).size; rw [Array.size_setIfInBounds]; exact h.size, fun i hi hn => (setIt_heap (fun e => by
    subst e; rcases hb with hb | hb
    · exact hn hb
    · omega)).trans (h.block i hi hn)⟩
theorem Blk.setIt {w : World} {g b : Nat} {cs : Array Value} {T : TypeId} (h : Blk w g cs T) (hn : g ≠ b) (s : ByteArray) (pos : Nat) : Blk (setIt w b s pos) g cs T := (setIt_heap hn).trans h
theorem cell_setIt {w : World} {b : Nat} {s : ByteArray} {pos : Nat} {a : Addr} {v : Value} (h : w.cell? a = some v) (hn : a.block ≠ b) : (setIt w b s pos).cell? a = some v := by
  rw [World.cell?_of_block (setIt_heap hn)]; exact h
theorem it_next {P : Program} {w : World} {b : Nat} {s : ByteArray} {pos : Nat} (ty : TypeId) (hi : It w b s pos) (h : pos < s.size) (ha : (s[pos]'h).toNat < 128) :
    (Instr.next (.pointer (some ⟨b, 0, none⟩)) true ty).run P w = .ok (.tuple #[.bool true, .int .i64 pos, .int .i32 (s[pos]'h).toNat]) (setIt w b s (pos + 1)) := by
  unfold It at hi
  simp only [Instr.next, getObj, setObj, Sem.run_bind, Sem.run, hi, Result.andThen, h, if_true, decode_ascii s pos h ha]
  simp [goInt, Sem.run, hi, setIt]
theorem it_last {P : Program} {w : World} {b : Nat} {s : ByteArray} {pos : Nat} (ty : TypeId) (hi : It w b s pos) (h : ¬ pos < s.size) :
    (Instr.next (.pointer (some ⟨b, 0, none⟩)) true ty).run P w = .ok (.tuple #[.bool false]) w := by
  unfold It at hi
  simp [Instr.next, getObj, Sem.run, hi, h]
end Go.RR
