/- Instructions by the reference: rows, parts, right ones. No condition. Instructions by the reference: parts, right ones. No condition. -/
import Derived.Test.YtapmojfebljjnaaGreatGb
import Derived.Deep.CutBlock
set_option linter.unusedVariables false
namespace Go.Proofs.YtapmojfebljjnaaGreat
open Go.RowKit Go.RR

def rowsL : List (ByteArray × Kd × Int) := [(⟨#[104, 97, 108, 116]⟩, .N, 0), (⟨#[108, 105]⟩, .I, 0), (⟨#[97, 100, 100, 105]⟩, .RI, 0), (⟨#[115, 108, 108, 105]⟩, .RI, 0), (⟨#[97, 100, 100]⟩, .R, 0), (⟨#[115, 117, 98]⟩, .R, 0), (⟨#[97, 110, 100]⟩, .R, 0), (⟨#[111, 114]⟩, .R, 0), (⟨#[120, 111, 114]⟩, .R, 0), (⟨#[115, 108, 116]⟩, .R, 0), (⟨#[99, 97, 100, 100]⟩, .R, 0), (⟨#[99, 115, 117, 98]⟩, .R, 0), (⟨#[99, 109, 117, 108]⟩, .R, 0), (⟨#[99, 99, 111, 110, 106]⟩, .U, 0), (⟨#[99, 110, 111, 114, 109]⟩, .U, 0), (⟨#[98, 101, 113]⟩, .B, 0), (⟨#[98, 110, 101]⟩, .B, 0), (⟨#[98, 108, 116]⟩, .B, 0), (⟨#[106, 97, 108]⟩, .J, 0), (⟨#[108, 98]⟩, .L, 1), (⟨#[108, 104]⟩, .L, 2), (⟨#[108, 119]⟩, .L, 4), (⟨#[108, 100]⟩, .L, 8), (⟨#[108, 98, 117]⟩, .L, 1), (⟨#[108, 104, 117]⟩, .L, 2), (⟨#[108, 119, 117]⟩, .L, 4), (⟨#[115, 98]⟩, .S, 1), (⟨#[115, 104]⟩, .S, 2), (⟨#[115, 119]⟩, .S, 4), (⟨#[115, 100]⟩, .S, 8), (⟨#[115, 119, 97, 112, 46, 119]⟩, .A, 4), (⟨#[115, 119, 97, 112, 46, 100]⟩, .A, 8), (⟨#[97, 109, 111, 97, 100, 100, 46, 119]⟩, .A, 4), (⟨#[97, 109, 111, 97, 100, 100, 46, 100]⟩, .A, 8), (⟨#[102, 101, 110, 99, 101]⟩, .N, 0)]
def rowCells : List Value := [.string ⟨#[104, 97, 108, 116]⟩, .string ⟨#[78]⟩, .int .i64 0, .string ⟨#[108, 105]⟩, .string ⟨#[73]⟩, .int .i64 0, .string ⟨#[97, 100, 100, 105]⟩, .string ⟨#[82, 73]⟩, .int .i64 0, .string ⟨#[115, 108, 108, 105]⟩, .string ⟨#[82, 73]⟩, .int .i64 0, .string ⟨#[97, 100, 100]⟩, .string ⟨#[82]⟩, .int .i64 0, .string ⟨#[115, 117, 98]⟩, .string ⟨#[82]⟩, .int .i64 0, .string ⟨#[97, 110, 100]⟩, .string ⟨#[82]⟩, .int .i64 0, .string ⟨#[111, 114]⟩, .string ⟨#[82]⟩, .int .i64 0, .string ⟨#[120, 111, 114]⟩, .string ⟨#[82]⟩, .int .i64 0, .string ⟨#[115, 108, 116]⟩, .string ⟨#[82]⟩, .int .i64 0, .string ⟨#[99, 97, 100, 100]⟩, .string ⟨#[82]⟩, .int .i64 0, .string ⟨#[99, 115, 117, 98]⟩, .string ⟨#[82]⟩, .int .i64 0, .string ⟨#[99, 109, 117, 108]⟩, .string ⟨#[82]⟩, .int .i64 0, .string ⟨#[99, 99, 111, 110, 106]⟩, .string ⟨#[85]⟩, .int .i64 0, .string ⟨#[99, 110, 111, 114, 109]⟩, .string ⟨#[85]⟩, .int .i64 0, .string ⟨#[98, 101, 113]⟩, .string ⟨#[66]⟩, .int .i64 0, .string ⟨#[98, 110, 101]⟩, .string ⟨#[66]⟩, .int .i64 0, .string ⟨#[98, 108, 116]⟩, .string ⟨#[66]⟩, .int .i64 0, .string ⟨#[106, 97, 108]⟩, .string ⟨#[74]⟩, .int .i64 0, .string ⟨#[108, 98]⟩, .string ⟨#[76]⟩, .int .i64 1, .string ⟨#[108, 104]⟩, .string ⟨#[76]⟩, .int .i64 2, .string ⟨#[108, 119]⟩, .string ⟨#[76]⟩, .int .i64 4, .string ⟨#[108, 100]⟩, .string ⟨#[76]⟩, .int .i64 8, .string ⟨#[108, 98, 117]⟩, .string ⟨#[76]⟩, .int .i64 1, .string ⟨#[108, 104, 117]⟩, .string ⟨#[76]⟩, .int .i64 2, .string ⟨#[108, 119, 117]⟩, .string ⟨#[76]⟩, .int .i64 4, .string ⟨#[115, 98]⟩, .string ⟨#[83]⟩, .int .i64 1, .string ⟨#[115, 104]⟩, .string ⟨#[83]⟩, .int .i64 2, .string ⟨#[115, 119]⟩, .string ⟨#[83]⟩, .int .i64 4, .string ⟨#[115, 100]⟩, .string ⟨#[83]⟩, .int .i64 8, .string ⟨#[115, 119, 97, 112, 46, 119]⟩, .string ⟨#[65]⟩, .int .i64 4, .string ⟨#[115, 119, 97, 112, 46, 100]⟩, .string ⟨#[65]⟩, .int .i64 8, .string ⟨#[97, 109, 111, 97, 100, 100, 46, 119]⟩, .string ⟨#[65]⟩, .int .i64 4, .string ⟨#[97, 109, 111, 97, 100, 100, 46, 100]⟩, .string ⟨#[65]⟩, .int .i64 8, .string ⟨#[102, 101, 110, 99, 101]⟩, .string ⟨#[78]⟩, .int .i64 0]
theorem rowCells_eq : rowCells = rowsL.flatMap fun r => [.string r.1, .string r.2.1.s, .int .i64 r.2.2] := by kernel_rfl
def rowAt (o : Int) : ByteArray × Kd × Int := if 0 ≤ o then rowsL.getD o.toNat (⟨#[]⟩, .z, 0) else (⟨#[]⟩, .z, 0)
def inOps (o : Int) : Bool := decide (0 ≤ o) && decide (o < 35)
theorem rowAt_kd (o : Int) : (rowAt o).2.1 = kd o := by
  unfold rowAt kd
  split
  · obtain ⟨n, rfl⟩ := Int.eq_ofNat_of_zero_le ‹0 ≤ o›
    rw [Int.toNat_natCast]
    by_cases h : n < 35
    · have key : ∀ n, n < 35 → (rowsL.getD n (⟨#[]⟩, Kd.z, 0)).2.1 = kdL.getD n Kd.z := by decide
      exact key n h
    · rw [List.getD_eq_getElem?_getD, List.getD_eq_getElem?_getD, List.getElem?_eq_none (by have : rowsL.length = 35 := rfl; omega), List.getElem?_eq_none (by have : kdL.length = 35 := rfl; omega)]; rfl
  · rfl
theorem rowCells_l : ∀ (l : List (ByteArray × Kd × Int)) (n : Nat) (r : ByteArray × Kd × Int), l[n]? = some r →
    (l.flatMap fun r => [Value.string r.1, .string r.2.1.s, .int .i64 r.2.2])[n * 3]? = some (.string r.1) ∧ (l.flatMap fun r => [Value.string r.1, .string r.2.1.s, .int .i64 r.2.2])[n * 3 + 1]? = some (.string r.2.1.s) ∧
    (l.flatMap fun r => [Value.string r.1, .string r.2.1.s, .int .i64 r.2.2])[n * 3 + 2]? = some (.int .i64 r.2.2)
  | [], n, r, h => by simp at h
  | q :: l, 0, r, h => by simp at h; subst h; exact ⟨rfl, rfl, rfl⟩
  | q :: l, n + 1, r, h => by
    have := rowCells_l l n r (by simpa using h)
    rw [show (n + 1) * 3 = n * 3 + 3 by omega]
    exact this
theorem rowCells_at (n : Nat) (hn : n < 35) : rowCells[n * 3]? = some (.string (rowAt n).1) ∧ rowCells[n * 3 + 1]? = some (.string (kd n).s) ∧ rowCells[n * 3 + 2]? = some (.int .i64 (rowAt n).2.2) := by
  rw [← rowAt_kd, rowCells_eq]
  refine rowCells_l rowsL n (rowAt n) ?_
  unfold rowAt
  rw [if_pos (by omega), Int.toNat_natCast, List.getD_eq_getElem?_getD, List.getElem?_eq_getElem (by have : rowsL.length = 35 := rfl; omega)]
  rfl
set_option maxHeartbeats 1000000 in
set_option maxRecDepth 100000 in
theorem rows_any (w : World) : Calls Tryz.prog 80 #[] w (RetSl fun v w' => Sl w' (fun k => w.heap.size ≤ k) 3 v 35 rowCells ∧ Chg NoB w w') := by
  go_enter Tryz.func80, Tryz.ntmps80
  go_wp2
  go_ret
  refine ⟨_, rfl, (Sl.fresh w rowCells 122 35 rfl).mono fun k hk => by omega, (Chg.refl _ _).alloc _⟩

set_option maxHeartbeats 2000000 in
set_option maxRecDepth 100000 in
theorem of_any (o : Int) (w : World) : Calls Tryz.prog 41 #[.int .i64 o] w (RetW (.tuple #[.agg #[.string (rowAt o).1, .string (kd o).s, .int .i64 (rowAt o).2.2], .bool (inOps o)]) fun w' => Chg NoB w w') := by
  have A0 := (Chg.refl NoB w).alloc (.cells #[.string ⟨#[]⟩, .string ⟨#[]⟩, .int .i64 0] 122)
  have B0 := Blk.new w #[.string ⟨#[]⟩, .string ⟨#[]⟩, .int .i64 0] 122
  by_cases h0 : o < 0
  · have e1 : rowAt o = (⟨#[]⟩, .z, 0) := by unfold rowAt; rw [if_neg (by omega)]
    have e2 : inOps o = false := by unfold inOps; simp; omega
    rw [e1, e2, kd_neg h0]
    clear e1 e2 A0 B0
    go_enter Tryz.func41, Tryz.ntmps41
    go_wp2
    exact bodyPost_ret (by simp [results, Tryz.results41, go_sem]; rfl) rfl ⟨rfl, (Chg.refl _ _).alloc _⟩
  · have q0 : decide (o < 0) = false := by simp; omega
    by_cases h1 : 35 ≤ o
    · have e1 : rowAt o = (⟨#[]⟩, .z, 0) := by unfold rowAt; rw [if_pos (by omega), List.getD_eq_getElem?_getD, List.getElem?_eq_none (by have : rowsL.length = 35 := rfl; omega)]; rfl
      have e2 : inOps o = false := by unfold inOps; simp; omega
      have q1 : decide ((35 : Int) ≤ o) = true := by simp; omega
      rw [e1, e2, kd_big h1]
      clear e1 e2 h0 h1
      go_enter Tryz.func41, Tryz.ntmps41
      go_wp2_with fail
      refine (rows_any _).mono ?_
      rintro e w1 ⟨v, rfl, S1, C1⟩
      obtain ⟨p, cap, rfl⟩ := S1.form
      have B1 := C1.blk0 B0
      have hc := A0.step C1
      have x0 := B1.cell' (i := 0) (v := .string ⟨#[]⟩) (by rfl)
      have x1 := B1.cell' (i := 1) (v := .string ⟨#[]⟩) (by rfl)
      have x2 := B1.cell' (i := 2) (v := .int .i64 0) (by rfl)
      have xf := B1.frozen
      have xl := B1.lt
      have HC := Lib.hid hc
      clear S1 B0 A0 C1 hc
      go_wp2
      exact bodyPost_ret (by simp [results, Tryz.results41, go_sem, x0, x1, x2]; rfl) rfl ⟨rfl, ((HC.out.setCell (.inr (Nat.le_refl _)) _).setCell (.inr (Nat.le_refl _)) _).setCell (.inr (Nat.le_refl _)) _⟩
    · obtain ⟨n, rfl⟩ := Int.eq_ofNat_of_zero_le (by omega : 0 ≤ o)
      have hn : n < 35 := by omega
      have e2 : inOps n = true := by unfold inOps; simp; omega
      have q1 : decide ((35 : Int) ≤ n) = false := by simp; omega
      obtain ⟨r0, r1, r2⟩ := rowCells_at n hn
      have HR := Lib.hid (And.intro r0 (And.intro r1 r2))
      rw [e2]
      clear h0 h1 e2 r0 r1 r2
      go_enter Tryz.func41, Tryz.ntmps41
      go_wp2_with fail
      refine (rows_any _).mono ?_
      rintro e w1 ⟨v, rfl, S1, C1⟩
      obtain ⟨p, cap, rfl⟩ := S1.form
      have B1 := Lib.hid (C1.blk0 B0)
      have HC := Lib.hid (A0.step C1)
      clear S1 B0 A0 C1
      go_wp2_with fail
      refine (rows_any _).mono ?_
      rintro e w2 ⟨v, rfl, S2, C2⟩
      obtain ⟨-, p2, cap2, e, hcp, hs⟩ := S2
      cases e
      obtain ⟨g, of, rfl, hg, hgl, hcell⟩ := hs (by omega)
      have r0 := hcell _ _ HR.out.1
      have r1 := hcell _ _ HR.out.2.1
      have r2 := hcell _ _ HR.out.2.2
      rw [← Nat.add_assoc] at r1 r2
      have B2 := C2.blk0 B1.out
      have x0 := B2.cell' (i := 0) (v := .string ⟨#[]⟩) (by rfl)
      have x1 := B2.cell' (i := 1) (v := .string ⟨#[]⟩) (by rfl)
      have x2 := B2.cell' (i := 2) (v := .int .i64 0) (by rfl)
      have xf := B2.frozen
      have xl := B2.lt
      have HC2 := Lib.hid (HC.out.step C2)
      have n0 : (0 : Int) ≤ n := by omega
      have n1 : (n : Int) < 35 := by omega
      clear hs hcell C2 B1 hg
      go_wp2
      exact bodyPost_ret (by simp [results, Tryz.results41, go_sem, x0, x1, x2]) rfl ⟨rfl, ((HC2.out.setCell (.inr (Nat.le_refl _)) _).setCell (.inr (Nat.le_refl _)) _).setCell (.inr (Nat.le_refl _)) _⟩
end Go.Proofs.YtapmojfebljjnaaGreat
set_option linter.unusedVariables false
set_option linter.unusedSimpArgs false
namespace Go.Proofs.YtapmojfebljjnaaGreat
open Go.RowKit Go.RR

def Kd.parts : Kd → ByteArray
  | .I | .J => ⟨#[100, 105]⟩
  | .RI | .L => ⟨#[100, 115, 105]⟩
  | .R | .A => ⟨#[100, 115, 116]⟩
  | .U => ⟨#[100, 115]⟩
  | .B | .S => ⟨#[115, 116, 105]⟩
  | _ => ⟨#[]⟩
/-- Has a kind the part with this sign? -/
def hasP (k : Kd) (p : UInt8) : Bool := k.parts.data.toList.contains p
theorem hasP_d (k : Kd) : hasP k 100 = k.d := by cases k <;> decide
theorem hasP_s (k : Kd) : hasP k 115 = k.q := by cases k <;> decide
theorem hasP_t (k : Kd) : hasP k 116 = k.t := by cases k <;> decide
theorem hasP_i (k : Kd) : hasP k 105 = k.i := by cases k <;> decide
theorem parts_small (k : Kd) : k.parts.size ≤ 3 := by cases k <;> decide

theorem hasP_yes {k : Kd} {l : ByteArray} (h : k.parts = l) {n : Nat} (hn : n < l.size) {p : UInt8} (hc : l[n] = p) : hasP k p = true := by
  unfold hasP
  rw [h, List.contains_iff_mem]
  subst hc
  exact List.getElem_mem (l := l.data.toList) (by simpa using hn)
theorem hasP_no {k : Kd} {l : ByteArray} (h : k.parts = l) {p : UInt8} (hc : ∀ m (h : m < l.size), l[m] ≠ p) : hasP k p = false := by
  unfold hasP
  rw [h]
  cases e : l.data.toList.contains p with
  | false => rfl
  | true =>
    rw [List.contains_iff_mem] at e
    obtain ⟨i, hi, e⟩ := List.getElem_of_mem e
    exact absurd e (hc i (by simpa using hi))
set_option maxHeartbeats 1000000 in
set_option maxRecDepth 100000 in
theorem uses_any (k : Kd) (p : UInt8) (w : World) : Calls Tryz.prog 43 #[.string k.s, .int .u8 p.toNat] w (RetW (.bool (hasP k p)) fun w' => w = w') := by
  go_enter Tryz.func43, Tryz.ntmps43
  go_upto_block 0 with fail
  go_cut [5] (fun l wx => l = .string k.parts ∧ wx = w)
  case first =>
    cases k
    all_goals
      simp only [Kd.s, Kd.parts]
      go_wp2_with fail
      go_meet
      exact ⟨rfl, rfl⟩
  case rest =>
    obtain ⟨rfl, rfl⟩ := hcut
    have hsm := parts_small k
    generalize hl : k.parts = l at *
    have HL := Lib.hid hl
    clear hl
    go_wp2_with fail
    go_loopg [6] l.size (fun g ix wr => ∃ n : Nat, n + g = l.size ∧ ix = .int .i64 n ∧ (∀ m (h : m < l.size), m < n → l[m] ≠ p) ∧ wr = wc)
    case atStart => exact ⟨0, by omega, rfl, fun m h hm => by omega, rfl⟩
    case round =>
      obtain ⟨n, hn, rfl, hp, rfl⟩ := hrel
      have HP := Lib.hid hp
      have HN := Lib.hid hn
      have hn4 : n ≤ l.size := by omega
      clear hp hn
      by_cases hlt : n < l.size
      · have n0 : (0 : Int) ≤ n := by omega
        by_cases hc : l[n] = p
        · have t0 : ((l[n].toNat : Int) == (p.toNat : Int)) = true := by rw [hc]; simp
          have t1 : (l[n].toNat == p.toNat) = true := by rw [hc]; simp
          have HC := Lib.hid hc
          clear hc
          go_wp2_with fail
          go_ret
          exact ⟨ret_bool (hasP_yes HL.out hlt HC.out).symm, rfl⟩
        · have hc' : l[n].toNat ≠ p.toNat := fun e => hc (UInt8.toNat_inj.1 e)
          have t0 : ((l[n].toNat : Int) == (p.toNat : Int)) = false := by simp; omega
          have t1 : (l[n].toNat == p.toNat) = false := by simp; omega
          have HC := Lib.hid hc
          clear hc hc'
          go_wp2_with fail
          go_roundg (l.size - (n + 1))
          case measure => have := HN.out; omega
          case rel =>
            refine ⟨n + 1, by have := HN.out; omega, by go_num, fun m h hm => ?_, rfl⟩
            rcases Nat.lt_succ_iff_lt_or_eq.1 hm with h' | rfl
            · exact HP.out m h h'
            · exact HC.out
      · obtain rfl : n = l.size := by omega
        go_wp2_with fail
        go_ret
        exact ⟨ret_bool (hasP_no HL.out fun m h => HP.out m h h).symm, rfl⟩

set_option maxHeartbeats 1000000 in
set_option maxRecDepth 100000 in
theorem reg_any (n : Int) (k : Kd) (p : UInt8) (w : World) : Calls Tryz.prog 42 #[.int .i64 n, .string k.s, .int .u8 p.toNat] w (RetW (.bool (okr n (hasP k p))) fun w' => w = w') := by
  by_cases h0 : n = 0
  · have e : okr n (hasP k p) = true := okr_of (fun h => absurd h0 h) (by omega) (by omega)
    rw [e]
    subst h0
    clear e
    go_enter Tryz.func42, Tryz.ntmps42
    go_wp2
    go_ret
    exact ⟨rfl, rfl⟩
  · have t0 : (n == 0) = false := by simp [h0]
    by_cases h1 : n < 0
    · have e : okr n (hasP k p) = false := okr_no (.inr (.inl h1))
      have t1 : decide (0 < n) = false := by simp; omega
      rw [e]
      clear e h0 h1
      go_enter Tryz.func42, Tryz.ntmps42
      go_wp2
      go_ret
      exact ⟨rfl, rfl⟩
    · have t1 : decide (0 < n) = true := by simp; omega
      by_cases h2 : 15 < n
      · have e : okr n (hasP k p) = false := okr_no (.inr (.inr h2))
        have t2 : decide (n < 16) = false := by simp; omega
        rw [e]
        clear e h0 h1 h2
        go_enter Tryz.func42, Tryz.ntmps42
        go_wp2
        go_ret
        exact ⟨rfl, rfl⟩
      · have t2 : decide (n < 16) = true := by simp; omega
        have e : okr n (hasP k p) = hasP k p := by
          cases hb : hasP k p
          · exact okr_no (.inl ⟨h0, rfl⟩)
          · exact okr_of (fun _ => rfl) (by omega) (by omega)
        rw [e]
        clear e h0 h1 h2
        go_enter Tryz.func42, Tryz.ntmps42
        go_wp2_with fail
        refine (uses_any k p _).mono ?_
        rintro e w' ⟨rfl, rfl⟩
        go_wp2_with fail
        go_ret
        exact ⟨rfl, rfl⟩

theorem inOps_kd (o : Int) : inOps o = !decide (kd o = .z) := by
  by_cases h0 : o < 0
  · rw [kd_neg h0]; unfold inOps; simp; omega
  · by_cases h1 : 35 ≤ o
    · rw [kd_big h1]; unfold inOps; simp; omega
    · obtain ⟨n, rfl⟩ := Int.eq_ofNat_of_zero_le (by omega : 0 ≤ o)
      have := kd_in n (by omega)
      unfold inOps
      simp [this]; omega
theorem rightB_eq (i : In) : rightB i = (!decide (kd i.op = .z) && okr i.rd (kd i.op).d && okr i.rs (kd i.op).q && okr i.rt (kd i.op).t && (decide (i.im = 0) || ((kd i.op).i && decide (-2048 ≤ i.im) && decide (i.im ≤ 2047)))) := by
  unfold rightB
  by_cases h : i.im = 0
  · simp [h]
  · simp only [h, decide_false, Bool.false_or]
    cases decide (kd i.op = .z) <;> cases decide (-2048 ≤ i.im) <;> cases decide (i.im ≤ 2047) <;> cases okr i.rd (kd i.op).d <;> cases okr i.rs (kd i.op).q <;> cases okr i.rt (kd i.op).t <;> cases (kd i.op).i <;> rfl


set_option maxHeartbeats 2000000 in
set_option maxRecDepth 100000 in
theorem rright_any (i : In) (w : World) : Calls Tryz.prog 18 #[.agg #[.int .i64 i.op, .int .i64 i.rd, .int .i64 i.rs, .int .i64 i.rt, .int .i64 i.im]] w (RetW (.bool (rightB i)) fun w' => Chg NoB w w') := by
  have B0 := Lib.hid (Blk.new w #[.int .i64 i.op, .int .i64 i.rd, .int .i64 i.rs, .int .i64 i.rt, .int .i64 i.im] 41)
  have A0 := Lib.hid ((Chg.refl NoB w).alloc (.cells #[.int .i64 i.op, .int .i64 i.rd, .int .i64 i.rs, .int .i64 i.rt, .int .i64 i.im] 41))
  obtain ⟨k, hk⟩ : ∃ k, kd i.op = k := ⟨_, rfl⟩
  have HK := Lib.hid hk
  clear hk
  go_enter Tryz.func18, Tryz.ntmps18
  go_wp2_with fail
  refine (of_any _ _).mono ?_
  rintro e w1 ⟨rfl, C1⟩
  rw [inOps_kd, HK.out]
  have B1 := Lib.hid (C1.blk0 B0.out)
  have HC := Lib.hid (A0.out.step C1)
  clear C1
  have x0 := B1.out.cell' (i := 0) (v := .int .i64 i.op) (by rfl)
  have x1 := B1.out.cell' (i := 1) (v := .int .i64 i.rd) (by rfl)
  have x2 := B1.out.cell' (i := 2) (v := .int .i64 i.rs) (by rfl)
  have x3 := B1.out.cell' (i := 3) (v := .int .i64 i.rt) (by rfl)
  have x4 := B1.out.cell' (i := 4) (v := .int .i64 i.im) (by rfl)
  have xl := B1.out.lt
  by_cases hz : k = .z
  · have d0 : decide (k = Kd.z) = true := by simp [hz]
    rw [d0]
    have HZ := Lib.hid hz
    clear hz d0
    go_wp2_with fail
    go_ret
    exact ⟨ret_bool (rightB_kind (HK.out.trans HZ.out)).symm, HC.out.alloc _⟩
  · have d0 : decide (k = Kd.z) = false := by simp [hz]
    rw [d0]
    have HZ := Lib.hid hz
    clear hz d0
    obtain ⟨b1, h1⟩ : ∃ b, okr i.rd (hasP k 100) = b := ⟨_, rfl⟩
    obtain ⟨b2, h2⟩ : ∃ b, okr i.rs (hasP k 115) = b := ⟨_, rfl⟩
    obtain ⟨b3, h3⟩ : ∃ b, okr i.rt (hasP k 116) = b := ⟨_, rfl⟩
    obtain ⟨b4, h4⟩ : ∃ b, hasP k 105 = b := ⟨_, rfl⟩
    have H1 := Lib.hid h1
    have H2 := Lib.hid h2
    have H3 := Lib.hid h3
    have H4 := Lib.hid h4
    have E : rightB i = (b1 && b2 && b3 && (decide (i.im = 0) || (b4 && decide (-2048 ≤ i.im) && decide (i.im ≤ 2047)))) := by
      rw [rightB_eq, HK.out, ← hasP_d, ← hasP_s, ← hasP_t, ← hasP_i, h1, h2, h3, h4]; simp [HZ.out]
    have HE := Lib.hid E
    clear h1 h2 h3 h4 E
    go_wp2_with fail
    refine (reg_any i.rd k 100 _).mono ?_
    rintro e w' ⟨rfl, rfl⟩
    rw [H1.out]
    rcases b1 with _ | _
    ·
      go_wp2_with fail
      go_ret
      exact ⟨ret_bool (HE.out.trans (by simp)).symm, HC.out.alloc _⟩
    · go_wp2_with fail
      refine (reg_any i.rs k 115 _).mono ?_
      rintro e w' ⟨rfl, rfl⟩
      rw [H2.out]
      rcases b2 with _ | _
      ·
        go_wp2_with fail
        go_ret
        exact ⟨ret_bool (HE.out.trans (by simp)).symm, HC.out.alloc _⟩
      · go_wp2_with fail
        refine (reg_any i.rt k 116 _).mono ?_
        rintro e w' ⟨rfl, rfl⟩
        rw [H3.out]
        rcases b3 with _ | _
        ·
          go_wp2_with fail
          go_ret
          exact ⟨ret_bool (HE.out.trans (by simp)).symm, HC.out.alloc _⟩
        · by_cases hi : i.im = 0
          · have t0 : (i.im == 0) = true := by simp [hi]
            have HI := Lib.hid hi
            clear hi
            go_wp2_with fail
            go_ret
            exact ⟨ret_bool (HE.out.trans (by simp [HI.out])).symm, HC.out.alloc _⟩
          · have t0 : (i.im == 0) = false := by simp [hi]
            have HI := Lib.hid hi
            clear hi
            go_wp2_with fail
            refine (uses_any k 105 _).mono ?_
            rintro e w' ⟨rfl, rfl⟩
            rw [H4.out]
            rcases b4 with _ | _
            ·
              go_wp2_with fail
              go_ret
              exact ⟨ret_bool (HE.out.trans (by simp [HI.out])).symm, HC.out.alloc _⟩
            · by_cases hl : -2048 ≤ i.im
              · have t1 : decide (-2048 ≤ i.im) = true := by simp; omega
                have HL := Lib.hid hl
                clear hl
                go_wp2_with fail
                go_ret
                exact ⟨ret_bool (HE.out.trans (by simp [HI.out, HL.out])).symm, HC.out.alloc _⟩
              · have t1 : decide (-2048 ≤ i.im) = false := by simp; omega
                have HL := Lib.hid hl
                clear hl
                go_wp2_with fail
                go_ret
                exact ⟨ret_bool (HE.out.trans (by simp [HI.out]; have := HL.out; omega)).symm, HC.out.alloc _⟩

end Go.Proofs.YtapmojfebljjnaaGreat
