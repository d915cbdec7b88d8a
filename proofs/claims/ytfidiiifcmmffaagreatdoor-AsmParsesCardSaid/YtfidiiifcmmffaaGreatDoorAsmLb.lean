/- What the library asks of a world in the Asm laws, kept along the walk; numbers as texts by the library. No condition. -/
import Derived.Test.YtfidiiifcmmffaaGreatDoorTrace
import Derived.Test.YtfidiiifcmmffaaGreatDoorAsmP5
import Derived.Test.YtfidiiifcmmffaaGreatDoorBuilder
import Derived.Stop.LaidErr
import Derived.Stop.ErrReads
import Derived.LaidSub
import Derived.MakeChecks
set_option linter.unusedVariables false
set_option linter.unusedSimpArgs false
namespace Go.Proofs.YtfidiiifcmmffaaGreatDoor
open Go.RowKit Go.RR

theorem var_chg0 {P : Program} {w w' : World} (c : Chg NoB w w') {n : String} {cs : Array Value} (h : w.var? P n = some cs) : w'.var? P n = some cs := by
  unfold World.var? at h ⊢
  cases hg : P.globalNamed n with
  | none => rw [hg] at h; cases h
  | some g =>
    rw [hg] at h
    simp only [Option.bind_some] at h ⊢
    have hlt : g < w.heap.size := by
      rcases Nat.lt_or_ge g w.heap.size with h1 | h1
      · exact h1
      · rw [Array.getElem?_eq_none h1] at h; cases h
    rw [c.block g hlt id]
    exact h
/-- The table and the two errors of the library's, as they are laid. -/
structure Lb (w : World) : Prop where
  tab : Lib.TabIs Tryz.prog w "internal/strconv.uint64pow10" .u64 Lib.pow10Tab
  syn : ∃ tp p, w.var? Tryz.prog "strconv.ErrSyntax" = some #[.iface tp p]
  rng : ∃ tp p, w.var? Tryz.prog "strconv.ErrRange" = some #[.iface tp p]
  asc : Lib.TabIs Tryz.prog w "strings.asciiSpace" .u8 Lib.asciiSpaceTab
  mx : ∃ m, w.cell? ⟨2, 0, none⟩ = some (.int .i64 m)
theorem Lb.chg0 {w w' : World} (h : Lb w) (c : Chg NoB w w') : Lb w' :=
  ⟨var_chg0 c h.tab, by obtain ⟨tp, p, e⟩ := h.syn; exact ⟨tp, p, var_chg0 c e⟩, by obtain ⟨tp, p, e⟩ := h.rng; exact ⟨tp, p, var_chg0 c e⟩, var_chg0 c h.asc, by obtain ⟨m, e⟩ := h.mx; exact ⟨m, c.cell e id⟩⟩
theorem star_es : "*" ++ "errors.errorString" = "*errors.errorString" := by decide
theorem row_esp (u : TypeId) (h : Tryz.prog.typeName? 3 u = some "*errors.errorString") : u = 182 :=
  typeName_ptr_named (nm := "errors.errorString") (by rw [star_es]; kernel_rfl) (by kernel_rfl) (by decide) u (by rw [star_es]; exact h)
set_option maxRecDepth 100000 in
theorem Lb.of {w : World} (sh : w.ShapedOpen Tryz.prog) (hL : laidMetH Tryz.prog Rows.asmPrintsRow.laid w) : Lb w := by
  rw [MakeChecks.laidMetH_plain _ _ _ (by kernel_rfl)] at hL
  have h1 := hL.tail
  have h2 := h1.tail
  have h4 := h2.tail.tail
  have h5 := h4.tail
  refine ⟨Lib.tabIs_of_head (g := 3) (t := 168) (e := 151) (by kernel_rfl) (by kernel_rfl) Tryz.underlying168 Tryz.underlying151 (by kernel_rfl) (by kernel_rfl) h2, ?_, ?_, ?_, ?_⟩
  · obtain ⟨a, s, h, -⟩ := laid_sentinel h5 (g := 6) (ti := 84) (tp := 182) (te := 184) (ts := 9) (by kernel_rfl) (by kernel_rfl) Tryz.underlying84 (fun u h => row_esp u h) Tryz.underlying182 Tryz.underlying184 rfl rfl Tryz.underlying9 (by kernel_rfl) (by kernel_rfl)
    exact ⟨_, _, h⟩
  · obtain ⟨a, s, h, -⟩ := laid_sentinel h4 (g := 7) (ti := 84) (tp := 182) (te := 184) (ts := 9) (by kernel_rfl) (by kernel_rfl) Tryz.underlying84 (fun u h => row_esp u h) Tryz.underlying182 Tryz.underlying184 rfl rfl Tryz.underlying9 (by kernel_rfl) (by kernel_rfl)
    exact ⟨_, _, h⟩
  · exact Lib.tabIs_of_head (g := 0) (t := 94) (e := 5) (by kernel_rfl) (by kernel_rfl) Tryz.underlying94 Tryz.underlying5 (by kernel_rfl) (by kernel_rfl) h5.tail.tail
  · exact Tryz.laysM145.s1_3 w sh
theorem chg_grow (w : World) (k : Nat) (os : Array Obj) : Chg NoB w (Go.Sort.grow (w.drewN k) os) :=
  ⟨rfl, rfl, rfl, by simp [Go.Sort.grow], fun i hi _ => by
    show (w.heap ++ os)[i]? = w.heap[i]?
    rw [Array.getElem?_append_left hi]⟩
theorem chg_of_below {w w' : World} (h : Below w.heap.size w w') : Chg NoB w w' := by
  obtain ⟨a, b, c, d, e⟩ := h
  exact ⟨a, b, c, d, fun i hi _ => e i hi⟩
theorem itoa_any (n : Int) (w : World) (h : i64 n) (L : Lb w) : Calls Tryz.prog 46 #[.int .i64 n] w (RetW (.string ⟨(Go.Lib.itoa n).toArray⟩) fun w' => Chg NoB w w') :=
  (Tryz.strconv_Itoa n h.1 h.2 w L.tab).mono fun e w' ⟨he, k, os, hw⟩ => ⟨he, by rw [hw]; exact chg_grow w k os⟩
/-- The names of all instructions, as the program has them. -/
def namesA : Bs := [104, 97, 108, 116, 32, 108, 105, 32, 97, 100, 100, 105, 32, 115, 108, 108, 105, 32, 97, 100, 100, 32, 115, 117, 98, 32, 97, 110, 100, 32, 111, 114, 32, 120, 111, 114, 32, 115, 108, 116, 32, 99, 97, 100, 100, 32, 99, 115, 117, 98, 32, 99, 109, 117, 108, 32, 99, 99, 111, 110, 106, 32, 99, 110, 111, 114, 109, 32, 98, 101, 113, 32, 98, 110, 101, 32, 98, 108, 116, 32, 106, 97, 108, 32, 108, 98, 32, 108, 104, 32, 108, 119, 32, 108, 100, 32, 108, 98, 117, 32, 108, 104, 117, 32, 108, 119, 117, 32, 115, 98, 32, 115, 104, 32, 115, 119, 32, 115, 100, 32, 115, 119, 97, 112, 46, 119, 32, 115, 119, 97, 112, 46, 100, 32, 97, 109, 111, 97, 100, 100, 46, 119, 32, 97, 109, 111, 97, 100, 100, 46, 100, 32, 102, 101, 110, 99, 101]
theorem namesA_fields : Go.Lib.fields namesA = (List.range 35).map fun k => nameI (k : Nat) := by kernel_rfl
theorem fields_any (w : World) (L : Lb w) : Calls Tryz.prog 27 #[.string ⟨namesA.toArray⟩] w (RetW (.slice (some ⟨w.heap.size, 0, none⟩) 35 35) fun w' => Chg NoB w w' ∧ ∀ k : Nat, k < 35 → w'.cell? ⟨w.heap.size, k, none⟩ = some (.string ⟨(nameI k).toArray⟩)) := by
  refine (Tryz.strings_Fields ⟨namesA.toArray⟩ w (by decide +kernel) (by
    intro j b hb
    have : ∀ b ∈ namesA, b.toNat < 128 := by decide +kernel
    exact this b (List.mem_of_getElem? hb)) L.asc).mono ?_
  rintro e w' ⟨rfl, rfl⟩
  have hf : Go.Lib.fields (⟨namesA.toArray⟩ : ByteArray).data.toList = (List.range 35).map fun k => nameI (k : Nat) := namesA_fields
  rw [hf]
  refine ⟨by simp, (Chg.refl _ _).alloc _, fun k hk => (Blk.new w _ 9).cell' ?_⟩
  rw [List.getElem?_toArray, List.getElem?_map, List.getElem?_map, List.getElem?_range hk]
  rfl
end Go.Proofs.YtfidiiifcmmffaaGreatDoor
