/- Bytes turned into a text. No condition. -/
import Derived.Test.YtfidiiifcmmffaaDoorKit2
import Derived.Laws.IdiomStrings
import Derived.Laws.BytesArg
import Derived.Lib.SlBytesConst
set_option linter.unusedVariables false
set_option linter.unusedSimpArgs false
namespace Go.RR
open Go.RowKit

theorem run_text {P : Program} {w : World} {S : Nat → Prop} {v : Value} {s : ByteArray} (src dst e : TypeId) (hs : P.underlying src = some (.slice e)) (he : P.underlying e = some (.int .u8)) (hd : P.underlying dst = some .string)
    (h : Sl w S 1 v s.size (byteCells s)) : (convert src dst v).run P w = .ok (.string s) w := by
  obtain ⟨hl, p, cap, rfl, hn, hc⟩ := h
  have hsz : s.size = s.data.toList.length := by cases s; rfl
  cases p with
  | none =>
    have h0 : s.size = 0 := by
      rcases Nat.eq_zero_or_pos s.size with h | h
      · exact h
      · obtain ⟨_, _, h, _⟩ := hc h; cases h
    have : s = ByteArray.empty := by
      cases s with
      | mk d => cases d with
        | mk l =>
          have : l = [] := List.eq_nil_of_length_eq_zero (by simpa using hsz.symm.trans h0)
          subst this; rfl
    rw [run_convert_bytes_nil w src e hs he s.size cap dst hd, this]
  | some a =>
    have hb := run_convert_bytes_back (P := P) w src dst e a cap s.data.toList hs he hd (fun j hj => by
      obtain ⟨g, off, ha, -, -, q⟩ := hc (by omega)
      cases ha
      rw [Addr.add_lit]
      exact q j _ (by simp [byteCells, List.getElem?_eq_getElem hj]))
    rw [← hsz] at hb
    simpa using hb
theorem text_ne {x y : ByteArray} (h : ¬ x = y) : (x.toList == y.toList) = false := by
  rw [beq_eq_false_iff_ne]
  intro e
  rw [ByteArray.toList_eq, ByteArray.toList_eq] at e
  apply h
  cases x; cases y
  exact congrArg ByteArray.mk (Array.toList_inj.1 e)
end Go.RR
