/- What the library asks of a world, kept along the walk; numbers as texts by the library. No condition. -/
import Derived.Test.YtfidiiifcmmffaaDoorTrace2
import Derived.Test.YtfidiiifcmmffaaDoorBuilder
import Derived.Stop.LaidErr
import Derived.Stop.ErrReads
import Derived.LaidSub
import Derived.MakeChecks
set_option linter.unusedVariables false
set_option linter.unusedSimpArgs false
namespace Go.Proofs.YtfidiiifcmmffaaDoor
open Go.RowKit Go.RR

theorem var_chg0 {P : Program} {w w' : World} (c : Chg NoB w w') {n : String} {cs : Array Value} (h : w.var? P n = some cs) : w'.var? P n = some cs := by
  unfold World.var? at h ⊢
  cases hg : P.globalNamed n with
  | none => rw [hg] at h; cases h
  | some g =>
    rw [hg] at h
    simp only [Option.bind_some] at h ⊢
    have hlt : g < w.heap.size := by
      rcases Nat.lt_or_ge g w.heap.size with h1 | h1
      · exact h1
      · rw [Array.getElem?_eq_none h1] at h; cases h
    rw [c.block g hlt id]
    exact h
/-- The table and the two errors of the library's, as they are laid. -/
structure Lb (w : World) : Prop where
  tab : Lib.TabIs Tryd.prog w "internal/strconv.uint64pow10" .u64 Lib.pow10Tab
  syn : ∃ tp p, w.var? Tryd.prog "strconv.ErrSyntax" = some #[.iface tp p]
  rng : ∃ tp p, w.var? Tryd.prog "strconv.ErrRange" = some #[.iface tp p]
  tz : w.cell? ⟨7, 15, none⟩ = some (.int .u8 4)
  mx : ∃ m, w.cell? ⟨0, 0, none⟩ = some (.int .i64 m)
theorem Lb.chg0 {w w' : World} (h : Lb w) (c : Chg NoB w w') : Lb w' :=
  ⟨var_chg0 c h.tab, by obtain ⟨tp, p, e⟩ := h.syn; exact ⟨tp, p, var_chg0 c e⟩, by obtain ⟨tp, p, e⟩ := h.rng; exact ⟨tp, p, var_chg0 c e⟩, c.cell h.tz id, by obtain ⟨m, e⟩ := h.mx; exact ⟨m, c.cell e id⟩⟩
theorem star_es : "*" ++ "errors.errorString" = "*errors.errorString" := by decide
theorem row_esp (u : TypeId) (h : Tryd.prog.typeName? 3 u = some "*errors.errorString") : u = 139 :=
  typeName_ptr_named (nm := "errors.errorString") (by rw [star_es]; kernel_rfl) (by kernel_rfl) (by decide) u (by rw [star_es]; exact h)
theorem Lb.of {w : World} (sh : w.ShapedOpen Tryd.prog) (hL : laidMetH Tryd.prog Rows.traceActsRow.laid w) : Lb w := by
  rw [MakeChecks.laidMetH_plain _ _ _ (by kernel_rfl)] at hL
  have h1 := hL.tail
  have h2 := h1.tail
  have h4 := h2.tail.tail
  have h5 := h4.tail
  refine ⟨Lib.tabIs_of_head (g := 1) (t := 110) (e := 42) (by kernel_rfl) (by kernel_rfl) Tryd.underlying110 Tryd.underlying42 (by kernel_rfl) (by kernel_rfl) h2, ?_, ?_, ?_, ?_⟩
  · obtain ⟨a, s, h, -⟩ := laid_sentinel h5 (g := 4) (ti := 65) (tp := 139) (te := 141) (ts := 9) (by kernel_rfl) (by kernel_rfl) Tryd.underlying65 (fun u h => row_esp u h) Tryd.underlying139 Tryd.underlying141 rfl rfl Tryd.underlying9 (by kernel_rfl) (by kernel_rfl)
    exact ⟨_, _, h⟩
  · obtain ⟨a, s, h, -⟩ := laid_sentinel h4 (g := 5) (ti := 65) (tp := 139) (te := 141) (ts := 9) (by kernel_rfl) (by kernel_rfl) Tryd.underlying65 (fun u h => row_esp u h) Tryd.underlying139 Tryd.underlying141 rfl rfl Tryd.underlying9 (by kernel_rfl) (by kernel_rfl)
    exact ⟨_, _, h⟩
  · have hT := Lib.tabIs_of_head (k := .u8) (zs := [0, 1, 56, 2, 57, 49, 28, 3, 61, 58, 42, 50, 38, 29, 17, 4, 62, 47, 59, 36, 45, 43, 51, 22, 53, 39, 33, 30, 24, 18, 12, 5, 63, 55, 48, 27, 60, 41, 37, 16, 46, 35, 44, 21, 52, 32, 23, 11, 54, 26, 40, 15, 34, 20, 31, 10, 25, 14, 19, 9, 13, 8, 7, 6]) (g := 7) (t := 136) (e := 5) (by kernel_rfl) (by kernel_rfl) Tryd.underlying136 Tryd.underlying5 (by kernel_rfl) (by kernel_rfl) h1
    exact hT.cell (by kernel_rfl) 15 (by decide)
  · exact Tryd.laysM145.s1_3 w sh
theorem chg_grow (w : World) (k : Nat) (os : Array Obj) : Chg NoB w (Go.Sort.grow (w.drewN k) os) :=
  ⟨rfl, rfl, rfl, by simp [Go.Sort.grow], fun i hi _ => by
    show (w.heap ++ os)[i]? = w.heap[i]?
    rw [Array.getElem?_append_left hi]⟩
theorem chg_of_below {w w' : World} (h : Below w.heap.size w w') : Chg NoB w w' := by
  obtain ⟨a, b, c, d, e⟩ := h
  exact ⟨a, b, c, d, fun i hi _ => e i hi⟩
set_option maxRecDepth 100000 in
theorem tnum_any (n : Int) (w : World) (h : i64 n) (L : Lb w) : Calls Tryd.prog 24 #[.int .i64 n] w (RetW (.string ⟨(Go.Lib.itoa n).toArray⟩) fun w' => Chg NoB w w') := by
  have H := Lib.hid (Tryd.strconv_Itoa n h.1 h.2 w L.tab)
  clear h L
  go_enter Tryd.func24, Tryd.ntmps24
  go_wp2_with fail
  refine H.out.mono ?_
  rintro e w1 ⟨rfl, k, os, rfl⟩
  go_wp2_with fail
  go_ret
  exact ⟨rfl, chg_grow w k os⟩
end Go.Proofs.YtfidiiifcmmffaaDoor
