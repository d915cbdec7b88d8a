/- Instructions by the reference: parts, right ones. No condition. -/
import Derived.Test.YtfidiiifcmmffaaGreatDoorIsa2
set_option linter.unusedVariables false
set_option linter.unusedSimpArgs false
namespace Go.Proofs.YtfidiiifcmmffaaGreatDoor
open Go.RowKit Go.RR

def Kd.parts : Kd → ByteArray
  | .I | .J => ⟨#[100, 105]⟩
  | .RI | .L => ⟨#[100, 115, 105]⟩
  | .R | .A => ⟨#[100, 115, 116]⟩
  | .U => ⟨#[100, 115]⟩
  | .B | .S => ⟨#[115, 116, 105]⟩
  | _ => ⟨#[]⟩
/-- Has a kind the part with this sign? -/
def hasP (k : Kd) (p : UInt8) : Bool := k.parts.data.toList.contains p
theorem hasP_d (k : Kd) : hasP k 100 = k.d := by cases k <;> decide
theorem hasP_s (k : Kd) : hasP k 115 = k.q := by cases k <;> decide
theorem hasP_t (k : Kd) : hasP k 116 = k.t := by cases k <;> decide
theorem hasP_i (k : Kd) : hasP k 105 = k.i := by cases k <;> decide
theorem parts_small (k : Kd) : k.parts.size ≤ 3 := by cases k <;> decide

theorem hasP_yes {k : Kd} {l : ByteArray} (h : k.parts = l) {n : Nat} (hn : n < l.size) {p : UInt8} (hc : l[n] = p) : hasP k p = true := by
  unfold hasP
  rw [h, List.contains_iff_mem]
  subst hc
  exact List.getElem_mem (l := l.data.toList) (by simpa using hn)
theorem hasP_no {k : Kd} {l : ByteArray} (h : k.parts = l) {p : UInt8} (hc : ∀ m (h : m < l.size), l[m] ≠ p) : hasP k p = false := by
  unfold hasP
  rw [h]
  cases e : l.data.toList.contains p with
  | false => rfl
  | true =>
    rw [List.contains_iff_mem] at e
    obtain ⟨i, hi, e⟩ := List.getElem_of_mem e
    exact absurd e (hc i (by simpa using hi))
set_option maxHeartbeats 1000000 in
set_option maxRecDepth 100000 in
theorem uses_any (k : Kd) (p : UInt8) (w : World) : Calls Tryz.prog 34 #[.string k.s, .int .u8 p.toNat] w (RetW (.bool (hasP k p)) fun w' => w = w') := by
  go_enter Tryz.func34, Tryz.ntmps34
  go_upto_block 0 with fail
  go_cut [5] (fun l wx => l = .string k.parts ∧ wx = w)
  case first =>
    cases k
    all_goals
      simp only [Kd.s, Kd.parts]
      go_wp2_with fail
      go_meet
      exact ⟨rfl, rfl⟩
  case rest =>
    obtain ⟨rfl, rfl⟩ := hcut
    have hsm := parts_small k
    generalize hl : k.parts = l at *
    have HL := Lib.hid hl
    clear hl
    go_wp2_with fail
    go_loopg [6] l.size (fun g ix wr => ∃ n : Nat, n + g = l.size ∧ ix = .int .i64 n ∧ (∀ m (h : m < l.size), m < n → l[m] ≠ p) ∧ wr = wc)
    case atStart => exact ⟨0, by omega, rfl, fun m h hm => by omega, rfl⟩
    case round =>
      obtain ⟨n, hn, rfl, hp, rfl⟩ := hrel
      have HP := Lib.hid hp
      have HN := Lib.hid hn
      have hn4 : n ≤ l.size := by omega
      clear hp hn
      by_cases hlt : n < l.size
      · have n0 : (0 : Int) ≤ n := by omega
        by_cases hc : l[n] = p
        · have t0 : ((l[n].toNat : Int) == (p.toNat : Int)) = true := by rw [hc]; simp
          have t1 : (l[n].toNat == p.toNat) = true := by rw [hc]; simp
          have HC := Lib.hid hc
          clear hc
          go_wp2_with fail
          go_ret
          exact ⟨ret_bool (hasP_yes HL.out hlt HC.out).symm, rfl⟩
        · have hc' : l[n].toNat ≠ p.toNat := fun e => hc (UInt8.toNat_inj.1 e)
          have t0 : ((l[n].toNat : Int) == (p.toNat : Int)) = false := by simp; omega
          have t1 : (l[n].toNat == p.toNat) = false := by simp; omega
          have HC := Lib.hid hc
          clear hc hc'
          go_wp2_with fail
          go_roundg (l.size - (n + 1))
          case measure => have := HN.out; omega
          case rel =>
            refine ⟨n + 1, by have := HN.out; omega, by go_num, fun m h hm => ?_, rfl⟩
            rcases Nat.lt_succ_iff_lt_or_eq.1 hm with h' | rfl
            · exact HP.out m h h'
            · exact HC.out
      · obtain rfl : n = l.size := by omega
        go_wp2_with fail
        go_ret
        exact ⟨ret_bool (hasP_no HL.out fun m h => HP.out m h h).symm, rfl⟩

set_option maxHeartbeats 1000000 in
set_option maxRecDepth 100000 in
theorem reg_any (n : Int) (k : Kd) (p : UInt8) (w : World) : Calls Tryz.prog 33 #[.int .i64 n, .string k.s, .int .u8 p.toNat] w (RetW (.bool (okr n (hasP k p))) fun w' => w = w') := by
  by_cases h0 : n = 0
  · have e : okr n (hasP k p) = true := okr_of (fun h => absurd h0 h) (by omega) (by omega)
    rw [e]
    subst h0
    clear e
    go_enter Tryz.func33, Tryz.ntmps33
    go_wp2
    go_ret
    exact ⟨rfl, rfl⟩
  · have t0 : (n == 0) = false := by simp [h0]
    by_cases h1 : n < 0
    · have e : okr n (hasP k p) = false := okr_no (.inr (.inl h1))
      have t1 : decide (0 < n) = false := by simp; omega
      rw [e]
      clear e h0 h1
      go_enter Tryz.func33, Tryz.ntmps33
      go_wp2
      go_ret
      exact ⟨rfl, rfl⟩
    · have t1 : decide (0 < n) = true := by simp; omega
      by_cases h2 : 15 < n
      · have e : okr n (hasP k p) = false := okr_no (.inr (.inr h2))
        have t2 : decide (n < 16) = false := by simp; omega
        rw [e]
        clear e h0 h1 h2
        go_enter Tryz.func33, Tryz.ntmps33
        go_wp2
        go_ret
        exact ⟨rfl, rfl⟩
      · have t2 : decide (n < 16) = true := by simp; omega
        have e : okr n (hasP k p) = hasP k p := by
          cases hb : hasP k p
          · exact okr_no (.inl ⟨h0, rfl⟩)
          · exact okr_of (fun _ => rfl) (by omega) (by omega)
        rw [e]
        clear e h0 h1 h2
        go_enter Tryz.func33, Tryz.ntmps33
        go_wp2_with fail
        refine (uses_any k p _).mono ?_
        rintro e w' ⟨rfl, rfl⟩
        go_wp2_with fail
        go_ret
        exact ⟨rfl, rfl⟩

theorem inOps_kd (o : Int) : inOps o = !decide (kd o = .z) := by
  by_cases h0 : o < 0
  · rw [kd_neg h0]; unfold inOps; simp; omega
  · by_cases h1 : 35 ≤ o
    · rw [kd_big h1]; unfold inOps; simp; omega
    · obtain ⟨n, rfl⟩ := Int.eq_ofNat_of_zero_le (by omega : 0 ≤ o)
      have := kd_in n (by omega)
      unfold inOps
      simp [this]; omega
theorem rightB_eq (i : In) : rightB i = (!decide (kd i.op = .z) && okr i.rd (kd i.op).d && okr i.rs (kd i.op).q && okr i.rt (kd i.op).t && (decide (i.im = 0) || ((kd i.op).i && decide (-2048 ≤ i.im) && decide (i.im ≤ 2047)))) := by
  unfold rightB
  by_cases h : i.im = 0
  · simp [h]
  · simp only [h, decide_false, Bool.false_or]
    cases decide (kd i.op = .z) <;> cases decide (-2048 ≤ i.im) <;> cases decide (i.im ≤ 2047) <;> cases okr i.rd (kd i.op).d <;> cases okr i.rs (kd i.op).q <;> cases okr i.rt (kd i.op).t <;> cases (kd i.op).i <;> rfl


set_option maxHeartbeats 2000000 in
set_option maxRecDepth 100000 in
theorem rright_any (i : In) (w : World) : Calls Tryz.prog 14 #[.agg #[.int .i64 i.op, .int .i64 i.rd, .int .i64 i.rs, .int .i64 i.rt, .int .i64 i.im]] w (RetW (.bool (rightB i)) fun w' => Chg NoB w w') := by
  have B0 := Lib.hid (Blk.new w #[.int .i64 i.op, .int .i64 i.rd, .int .i64 i.rs, .int .i64 i.rt, .int .i64 i.im] 24)
  have A0 := Lib.hid ((Chg.refl NoB w).alloc (.cells #[.int .i64 i.op, .int .i64 i.rd, .int .i64 i.rs, .int .i64 i.rt, .int .i64 i.im] 24))
  obtain ⟨k, hk⟩ : ∃ k, kd i.op = k := ⟨_, rfl⟩
  have HK := Lib.hid hk
  clear hk
  go_enter Tryz.func14, Tryz.ntmps14
  go_wp2_with fail
  refine (of_any _ _).mono ?_
  rintro e w1 ⟨rfl, C1⟩
  rw [inOps_kd, HK.out]
  have B1 := Lib.hid (C1.blk0 B0.out)
  have HC := Lib.hid (A0.out.step C1)
  clear C1
  have x0 := B1.out.cell' (i := 0) (v := .int .i64 i.op) (by rfl)
  have x1 := B1.out.cell' (i := 1) (v := .int .i64 i.rd) (by rfl)
  have x2 := B1.out.cell' (i := 2) (v := .int .i64 i.rs) (by rfl)
  have x3 := B1.out.cell' (i := 3) (v := .int .i64 i.rt) (by rfl)
  have x4 := B1.out.cell' (i := 4) (v := .int .i64 i.im) (by rfl)
  have xl := B1.out.lt
  by_cases hz : k = .z
  · have d0 : decide (k = Kd.z) = true := by simp [hz]
    rw [d0]
    have HZ := Lib.hid hz
    clear hz d0
    go_wp2_with fail
    go_ret
    exact ⟨ret_bool (rightB_kind (HK.out.trans HZ.out)).symm, HC.out.alloc _⟩
  · have d0 : decide (k = Kd.z) = false := by simp [hz]
    rw [d0]
    have HZ := Lib.hid hz
    clear hz d0
    obtain ⟨b1, h1⟩ : ∃ b, okr i.rd (hasP k 100) = b := ⟨_, rfl⟩
    obtain ⟨b2, h2⟩ : ∃ b, okr i.rs (hasP k 115) = b := ⟨_, rfl⟩
    obtain ⟨b3, h3⟩ : ∃ b, okr i.rt (hasP k 116) = b := ⟨_, rfl⟩
    obtain ⟨b4, h4⟩ : ∃ b, hasP k 105 = b := ⟨_, rfl⟩
    have H1 := Lib.hid h1
    have H2 := Lib.hid h2
    have H3 := Lib.hid h3
    have H4 := Lib.hid h4
    have E : rightB i = (b1 && b2 && b3 && (decide (i.im = 0) || (b4 && decide (-2048 ≤ i.im) && decide (i.im ≤ 2047)))) := by
      rw [rightB_eq, HK.out, ← hasP_d, ← hasP_s, ← hasP_t, ← hasP_i, h1, h2, h3, h4]; simp [HZ.out]
    have HE := Lib.hid E
    clear h1 h2 h3 h4 E
    go_wp2_with fail
    refine (reg_any i.rd k 100 _).mono ?_
    rintro e w' ⟨rfl, rfl⟩
    rw [H1.out]
    rcases b1 with _ | _
    ·
      go_wp2_with fail
      go_ret
      exact ⟨ret_bool (HE.out.trans (by simp)).symm, HC.out.alloc _⟩
    · go_wp2_with fail
      refine (reg_any i.rs k 115 _).mono ?_
      rintro e w' ⟨rfl, rfl⟩
      rw [H2.out]
      rcases b2 with _ | _
      ·
        go_wp2_with fail
        go_ret
        exact ⟨ret_bool (HE.out.trans (by simp)).symm, HC.out.alloc _⟩
      · go_wp2_with fail
        refine (reg_any i.rt k 116 _).mono ?_
        rintro e w' ⟨rfl, rfl⟩
        rw [H3.out]
        rcases b3 with _ | _
        ·
          go_wp2_with fail
          go_ret
          exact ⟨ret_bool (HE.out.trans (by simp)).symm, HC.out.alloc _⟩
        · by_cases hi : i.im = 0
          · have t0 : (i.im == 0) = true := by simp [hi]
            have HI := Lib.hid hi
            clear hi
            go_wp2_with fail
            go_ret
            exact ⟨ret_bool (HE.out.trans (by simp [HI.out])).symm, HC.out.alloc _⟩
          · have t0 : (i.im == 0) = false := by simp [hi]
            have HI := Lib.hid hi
            clear hi
            go_wp2_with fail
            refine (uses_any k 105 _).mono ?_
            rintro e w' ⟨rfl, rfl⟩
            rw [H4.out]
            rcases b4 with _ | _
            ·
              go_wp2_with fail
              go_ret
              exact ⟨ret_bool (HE.out.trans (by simp [HI.out])).symm, HC.out.alloc _⟩
            · by_cases hl : -2048 ≤ i.im
              · have t1 : decide (-2048 ≤ i.im) = true := by simp; omega
                have HL := Lib.hid hl
                clear hl
                go_wp2_with fail
                go_ret
                exact ⟨ret_bool (HE.out.trans (by simp [HI.out, HL.out])).symm, HC.out.alloc _⟩
              · have t1 : decide (-2048 ≤ i.im) = false := by simp; omega
                have HL := Lib.hid hl
                clear hl
                go_wp2_with fail
                go_ret
                exact ⟨ret_bool (HE.out.trans (by simp [HI.out]; have := HL.out; omega)).symm, HC.out.alloc _⟩

end Go.Proofs.YtfidiiifcmmffaaGreatDoor
