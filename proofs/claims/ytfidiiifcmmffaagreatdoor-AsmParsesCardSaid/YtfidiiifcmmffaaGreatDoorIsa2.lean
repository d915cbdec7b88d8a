/- Instructions by the reference: rows, parts, right ones. No condition. -/
import Derived.Test.YtfidiiifcmmffaaGreatDoorIsa
import Derived.Deep.CutBlock
set_option linter.unusedVariables false
namespace Go.Proofs.YtfidiiifcmmffaaGreatDoor
open Go.RowKit Go.RR

def rowsL : List (ByteArray × Kd × Int) := [(⟨#[104, 97, 108, 116]⟩, .N, 0), (⟨#[108, 105]⟩, .I, 0), (⟨#[97, 100, 100, 105]⟩, .RI, 0), (⟨#[115, 108, 108, 105]⟩, .RI, 0), (⟨#[97, 100, 100]⟩, .R, 0), (⟨#[115, 117, 98]⟩, .R, 0), (⟨#[97, 110, 100]⟩, .R, 0), (⟨#[111, 114]⟩, .R, 0), (⟨#[120, 111, 114]⟩, .R, 0), (⟨#[115, 108, 116]⟩, .R, 0), (⟨#[99, 97, 100, 100]⟩, .R, 0), (⟨#[99, 115, 117, 98]⟩, .R, 0), (⟨#[99, 109, 117, 108]⟩, .R, 0), (⟨#[99, 99, 111, 110, 106]⟩, .U, 0), (⟨#[99, 110, 111, 114, 109]⟩, .U, 0), (⟨#[98, 101, 113]⟩, .B, 0), (⟨#[98, 110, 101]⟩, .B, 0), (⟨#[98, 108, 116]⟩, .B, 0), (⟨#[106, 97, 108]⟩, .J, 0), (⟨#[108, 98]⟩, .L, 1), (⟨#[108, 104]⟩, .L, 2), (⟨#[108, 119]⟩, .L, 4), (⟨#[108, 100]⟩, .L, 8), (⟨#[108, 98, 117]⟩, .L, 1), (⟨#[108, 104, 117]⟩, .L, 2), (⟨#[108, 119, 117]⟩, .L, 4), (⟨#[115, 98]⟩, .S, 1), (⟨#[115, 104]⟩, .S, 2), (⟨#[115, 119]⟩, .S, 4), (⟨#[115, 100]⟩, .S, 8), (⟨#[115, 119, 97, 112, 46, 119]⟩, .A, 4), (⟨#[115, 119, 97, 112, 46, 100]⟩, .A, 8), (⟨#[97, 109, 111, 97, 100, 100, 46, 119]⟩, .A, 4), (⟨#[97, 109, 111, 97, 100, 100, 46, 100]⟩, .A, 8), (⟨#[102, 101, 110, 99, 101]⟩, .N, 0)]
def rowCells : List Value := [.string ⟨#[104, 97, 108, 116]⟩, .string ⟨#[78]⟩, .int .i64 0, .string ⟨#[108, 105]⟩, .string ⟨#[73]⟩, .int .i64 0, .string ⟨#[97, 100, 100, 105]⟩, .string ⟨#[82, 73]⟩, .int .i64 0, .string ⟨#[115, 108, 108, 105]⟩, .string ⟨#[82, 73]⟩, .int .i64 0, .string ⟨#[97, 100, 100]⟩, .string ⟨#[82]⟩, .int .i64 0, .string ⟨#[115, 117, 98]⟩, .string ⟨#[82]⟩, .int .i64 0, .string ⟨#[97, 110, 100]⟩, .string ⟨#[82]⟩, .int .i64 0, .string ⟨#[111, 114]⟩, .string ⟨#[82]⟩, .int .i64 0, .string ⟨#[120, 111, 114]⟩, .string ⟨#[82]⟩, .int .i64 0, .string ⟨#[115, 108, 116]⟩, .string ⟨#[82]⟩, .int .i64 0, .string ⟨#[99, 97, 100, 100]⟩, .string ⟨#[82]⟩, .int .i64 0, .string ⟨#[99, 115, 117, 98]⟩, .string ⟨#[82]⟩, .int .i64 0, .string ⟨#[99, 109, 117, 108]⟩, .string ⟨#[82]⟩, .int .i64 0, .string ⟨#[99, 99, 111, 110, 106]⟩, .string ⟨#[85]⟩, .int .i64 0, .string ⟨#[99, 110, 111, 114, 109]⟩, .string ⟨#[85]⟩, .int .i64 0, .string ⟨#[98, 101, 113]⟩, .string ⟨#[66]⟩, .int .i64 0, .string ⟨#[98, 110, 101]⟩, .string ⟨#[66]⟩, .int .i64 0, .string ⟨#[98, 108, 116]⟩, .string ⟨#[66]⟩, .int .i64 0, .string ⟨#[106, 97, 108]⟩, .string ⟨#[74]⟩, .int .i64 0, .string ⟨#[108, 98]⟩, .string ⟨#[76]⟩, .int .i64 1, .string ⟨#[108, 104]⟩, .string ⟨#[76]⟩, .int .i64 2, .string ⟨#[108, 119]⟩, .string ⟨#[76]⟩, .int .i64 4, .string ⟨#[108, 100]⟩, .string ⟨#[76]⟩, .int .i64 8, .string ⟨#[108, 98, 117]⟩, .string ⟨#[76]⟩, .int .i64 1, .string ⟨#[108, 104, 117]⟩, .string ⟨#[76]⟩, .int .i64 2, .string ⟨#[108, 119, 117]⟩, .string ⟨#[76]⟩, .int .i64 4, .string ⟨#[115, 98]⟩, .string ⟨#[83]⟩, .int .i64 1, .string ⟨#[115, 104]⟩, .string ⟨#[83]⟩, .int .i64 2, .string ⟨#[115, 119]⟩, .string ⟨#[83]⟩, .int .i64 4, .string ⟨#[115, 100]⟩, .string ⟨#[83]⟩, .int .i64 8, .string ⟨#[115, 119, 97, 112, 46, 119]⟩, .string ⟨#[65]⟩, .int .i64 4, .string ⟨#[115, 119, 97, 112, 46, 100]⟩, .string ⟨#[65]⟩, .int .i64 8, .string ⟨#[97, 109, 111, 97, 100, 100, 46, 119]⟩, .string ⟨#[65]⟩, .int .i64 4, .string ⟨#[97, 109, 111, 97, 100, 100, 46, 100]⟩, .string ⟨#[65]⟩, .int .i64 8, .string ⟨#[102, 101, 110, 99, 101]⟩, .string ⟨#[78]⟩, .int .i64 0]
theorem rowCells_eq : rowCells = rowsL.flatMap fun r => [.string r.1, .string r.2.1.s, .int .i64 r.2.2] := by kernel_rfl
def rowAt (o : Int) : ByteArray × Kd × Int := if 0 ≤ o then rowsL.getD o.toNat (⟨#[]⟩, .z, 0) else (⟨#[]⟩, .z, 0)
def inOps (o : Int) : Bool := decide (0 ≤ o) && decide (o < 35)
theorem rowAt_kd (o : Int) : (rowAt o).2.1 = kd o := by
  unfold rowAt kd
  split
  · obtain ⟨n, rfl⟩ := Int.eq_ofNat_of_zero_le ‹0 ≤ o›
    rw [Int.toNat_natCast]
    by_cases h : n < 35
    · have key : ∀ n, n < 35 → (rowsL.getD n (⟨#[]⟩, Kd.z, 0)).2.1 = kdL.getD n Kd.z := by decide
      exact key n h
    · rw [List.getD_eq_getElem?_getD, List.getD_eq_getElem?_getD, List.getElem?_eq_none (by have : rowsL.length = 35 := rfl; omega), List.getElem?_eq_none (by have : kdL.length = 35 := rfl; omega)]; rfl
  · rfl
theorem rowCells_l : ∀ (l : List (ByteArray × Kd × Int)) (n : Nat) (r : ByteArray × Kd × Int), l[n]? = some r →
    (l.flatMap fun r => [Value.string r.1, .string r.2.1.s, .int .i64 r.2.2])[n * 3]? = some (.string r.1) ∧ (l.flatMap fun r => [Value.string r.1, .string r.2.1.s, .int .i64 r.2.2])[n * 3 + 1]? = some (.string r.2.1.s) ∧
    (l.flatMap fun r => [Value.string r.1, .string r.2.1.s, .int .i64 r.2.2])[n * 3 + 2]? = some (.int .i64 r.2.2)
  | [], n, r, h => by simp at h
  | q :: l, 0, r, h => by simp at h; subst h; exact ⟨rfl, rfl, rfl⟩
  | q :: l, n + 1, r, h => by
    have := rowCells_l l n r (by simpa using h)
    rw [show (n + 1) * 3 = n * 3 + 3 by omega]
    exact this
theorem rowCells_at (n : Nat) (hn : n < 35) : rowCells[n * 3]? = some (.string (rowAt n).1) ∧ rowCells[n * 3 + 1]? = some (.string (kd n).s) ∧ rowCells[n * 3 + 2]? = some (.int .i64 (rowAt n).2.2) := by
  rw [← rowAt_kd, rowCells_eq]
  refine rowCells_l rowsL n (rowAt n) ?_
  unfold rowAt
  rw [if_pos (by omega), Int.toNat_natCast, List.getD_eq_getElem?_getD, List.getElem?_eq_getElem (by have : rowsL.length = 35 := rfl; omega)]
  rfl
set_option maxHeartbeats 1000000 in
set_option maxRecDepth 100000 in
theorem rows_any (w : World) : Calls Tryz.prog 25 #[] w (RetSl fun v w' => Sl w' (fun k => w.heap.size ≤ k) 3 v 35 rowCells ∧ Chg NoB w w') := by
  go_enter Tryz.func25, Tryz.ntmps25
  go_wp2
  go_ret
  refine ⟨_, rfl, (Sl.fresh w rowCells 28 35 rfl).mono fun k hk => by omega, (Chg.refl _ _).alloc _⟩

set_option maxHeartbeats 2000000 in
set_option maxRecDepth 100000 in
theorem of_any (o : Int) (w : World) : Calls Tryz.prog 11 #[.int .i64 o] w (RetW (.tuple #[.agg #[.string (rowAt o).1, .string (kd o).s, .int .i64 (rowAt o).2.2], .bool (inOps o)]) fun w' => Chg NoB w w') := by
  have A0 := (Chg.refl NoB w).alloc (.cells #[.string ⟨#[]⟩, .string ⟨#[]⟩, .int .i64 0] 28)
  have B0 := Blk.new w #[.string ⟨#[]⟩, .string ⟨#[]⟩, .int .i64 0] 28
  by_cases h0 : o < 0
  · have e1 : rowAt o = (⟨#[]⟩, .z, 0) := by unfold rowAt; rw [if_neg (by omega)]
    have e2 : inOps o = false := by unfold inOps; simp; omega
    rw [e1, e2, kd_neg h0]
    clear e1 e2 A0 B0
    go_enter Tryz.func11, Tryz.ntmps11
    go_wp2
    exact bodyPost_ret (by simp [results, Tryz.results11, go_sem]; rfl) rfl ⟨rfl, (Chg.refl _ _).alloc _⟩
  · have q0 : decide (o < 0) = false := by simp; omega
    by_cases h1 : 35 ≤ o
    · have e1 : rowAt o = (⟨#[]⟩, .z, 0) := by unfold rowAt; rw [if_pos (by omega), List.getD_eq_getElem?_getD, List.getElem?_eq_none (by have : rowsL.length = 35 := rfl; omega)]; rfl
      have e2 : inOps o = false := by unfold inOps; simp; omega
      have q1 : decide ((35 : Int) ≤ o) = true := by simp; omega
      rw [e1, e2, kd_big h1]
      clear e1 e2 h0 h1
      go_enter Tryz.func11, Tryz.ntmps11
      go_wp2_with fail
      refine (rows_any _).mono ?_
      rintro e w1 ⟨v, rfl, S1, C1⟩
      obtain ⟨p, cap, rfl⟩ := S1.form
      have B1 := C1.blk0 B0
      have hc := A0.step C1
      have x0 := B1.cell' (i := 0) (v := .string ⟨#[]⟩) (by rfl)
      have x1 := B1.cell' (i := 1) (v := .string ⟨#[]⟩) (by rfl)
      have x2 := B1.cell' (i := 2) (v := .int .i64 0) (by rfl)
      have xf := B1.frozen
      have xl := B1.lt
      have HC := Lib.hid hc
      clear S1 B0 A0 C1 hc
      go_wp2
      exact bodyPost_ret (by simp [results, Tryz.results11, go_sem, x0, x1, x2]; rfl) rfl ⟨rfl, ((HC.out.setCell (.inr (Nat.le_refl _)) _).setCell (.inr (Nat.le_refl _)) _).setCell (.inr (Nat.le_refl _)) _⟩
    · obtain ⟨n, rfl⟩ := Int.eq_ofNat_of_zero_le (by omega : 0 ≤ o)
      have hn : n < 35 := by omega
      have e2 : inOps n = true := by unfold inOps; simp; omega
      have q1 : decide ((35 : Int) ≤ n) = false := by simp; omega
      obtain ⟨r0, r1, r2⟩ := rowCells_at n hn
      have HR := Lib.hid (And.intro r0 (And.intro r1 r2))
      rw [e2]
      clear h0 h1 e2 r0 r1 r2
      go_enter Tryz.func11, Tryz.ntmps11
      go_wp2_with fail
      refine (rows_any _).mono ?_
      rintro e w1 ⟨v, rfl, S1, C1⟩
      obtain ⟨p, cap, rfl⟩ := S1.form
      have B1 := Lib.hid (C1.blk0 B0)
      have HC := Lib.hid (A0.step C1)
      clear S1 B0 A0 C1
      go_wp2_with fail
      refine (rows_any _).mono ?_
      rintro e w2 ⟨v, rfl, S2, C2⟩
      obtain ⟨-, p2, cap2, e, hcp, hs⟩ := S2
      cases e
      obtain ⟨g, of, rfl, hg, hgl, hcell⟩ := hs (by omega)
      have r0 := hcell _ _ HR.out.1
      have r1 := hcell _ _ HR.out.2.1
      have r2 := hcell _ _ HR.out.2.2
      rw [← Nat.add_assoc] at r1 r2
      have B2 := C2.blk0 B1.out
      have x0 := B2.cell' (i := 0) (v := .string ⟨#[]⟩) (by rfl)
      have x1 := B2.cell' (i := 1) (v := .string ⟨#[]⟩) (by rfl)
      have x2 := B2.cell' (i := 2) (v := .int .i64 0) (by rfl)
      have xf := B2.frozen
      have xl := B2.lt
      have HC2 := Lib.hid (HC.out.step C2)
      have n0 : (0 : Int) ≤ n := by omega
      have n1 : (n : Int) < 35 := by omega
      clear hs hcell C2 B1 hg
      go_wp2
      exact bodyPost_ret (by simp [results, Tryz.results11, go_sem, x0, x1, x2]) rfl ⟨rfl, ((HC2.out.setCell (.inr (Nat.le_refl _)) _).setCell (.inr (Nat.le_refl _)) _).setCell (.inr (Nat.le_refl _)) _⟩
end Go.Proofs.YtfidiiifcmmffaaGreatDoor
