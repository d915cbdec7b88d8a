/- Instructions: their kinds, and which ones are right; what the program and the reference say of them. No condition. -/
import Derived.Test.YtapmojfebljjnaaGreatProg
import Derived.Test.YtapmojfebljjnaaGreatGa
set_option linter.unusedVariables false
namespace Go.Proofs.YtapmojfebljjnaaGreat
open Go.RowKit Go.RR

/-- An instruction. -/
structure In where
  op : Int
  rd : Int
  rs : Int
  rt : Int
  im : Int
deriving DecidableEq
def In.cells (i : In) : List Value := [.int .i64 i.op, .int .i64 i.rd, .int .i64 i.rs, .int .i64 i.rt, .int .i64 i.im]

inductive Kd | z | N | I | RI | R | U | B | J | L | S | A
deriving DecidableEq
def Kd.s : Kd → ByteArray
  | .z => ⟨#[]⟩ | .N => ⟨#[78]⟩ | .I => ⟨#[73]⟩ | .RI => ⟨#[82, 73]⟩ | .R => ⟨#[82]⟩ | .U => ⟨#[85]⟩ | .B => ⟨#[66]⟩ | .J => ⟨#[74]⟩ | .L => ⟨#[76]⟩ | .S => ⟨#[83]⟩ | .A => ⟨#[65]⟩
def Kd.chr : Kd → Int
  | .z => 0 | .N => 78 | .I => 73 | .RI => 114 | .R => 82 | .U => 85 | .B => 66 | .J => 74 | .L => 76 | .S => 83 | .A => 65
def kdL : List Kd := [.N, .I, .RI, .RI, .R, .R, .R, .R, .R, .R, .R, .R, .R, .U, .U, .B, .B, .B, .J, .L, .L, .L, .L, .L, .L, .L, .S, .S, .S, .S, .A, .A, .A, .A, .N]
def kd (o : Int) : Kd := if 0 ≤ o then kdL.getD o.toNat .z else .z
/-- Which parts has a kind? -/
def Kd.d : Kd → Bool
  | .I | .J | .RI | .L | .R | .A | .U => true
  | _ => false
def Kd.q : Kd → Bool
  | .RI | .L | .R | .A | .U | .B | .S => true
  | _ => false
def Kd.t : Kd → Bool
  | .R | .A | .B | .S => true
  | _ => false
def Kd.i : Kd → Bool
  | .I | .J | .RI | .L | .B | .S => true
  | _ => false
def okr (r : Int) (h : Bool) : Bool := (decide (r = 0) || h) && decide (0 ≤ r) && decide (r ≤ 15)
def rightB (i : In) : Bool := !decide (kd i.op = .z) && decide (-2048 ≤ i.im) && decide (i.im ≤ 2047) && okr i.rd (kd i.op).d && okr i.rs (kd i.op).q && okr i.rt (kd i.op).t && (decide (i.im = 0) || (kd i.op).i)

theorem name_any (k : Kd) (hk : k ≠ .z) (w : World) : Calls Tryz.prog 96 #[.int .u8 k.chr] w fun e w' => e = .returned (.string k.s) ∧ w = w' := by
  cases k
  case z => exact absurd rfl hk
  all_goals
    simp only [Kd.chr, Kd.s]
    go_enter Tryz.func96, Tryz.ntmps96
    go_wp2
    go_ret
    exact ⟨rfl, rfl⟩
theorem kinds_at (n : Nat) (hn : n < 35) (w : World) : (Instr.index 9 (.string ⟨#[78, 73, 114, 114, 82, 82, 82, 82, 82, 82, 82, 82, 82, 85, 85, 66, 66, 66, 74, 76, 76, 76, 76, 76, 76, 76, 83, 83, 83, 83, 65, 65, 65, 65, 78]⟩) (.int .i64 (n : Int))).run Tryz.prog w = .ok (.int .u8 (kd n).chr) w := by
  iterate 35 (rcases n with _ | n; · kernel_rfl)
  omega
theorem kd_in (n : Nat) (hn : n < 35) : kd (n : Int) ≠ .z := by
  revert n; decide
theorem kd_neg {o : Int} (h : o < 0) : kd o = .z := by unfold kd; rw [if_neg (by omega)]
theorem kd_big {o : Int} (h : 35 ≤ o) : kd o = .z := by
  unfold kd
  rw [if_pos (by omega), List.getD_eq_getElem?_getD, List.getElem?_eq_none (by have : kdL.length = 35 := rfl; omega)]
  rfl
theorem kind_any (o : Int) (w : World) : Calls Tryz.prog 66 #[.int .i64 o] w fun e w' => e = .returned (.string (kd o).s) ∧ w = w' := by
  by_cases h0 : o < 0
  · rw [kd_neg h0]
    go_enter Tryz.func66, Tryz.ntmps66
    go_wp2
    go_ret
    exact ⟨rfl, rfl⟩
  · by_cases h1 : 35 ≤ o
    · rw [kd_big h1]
      go_enter Tryz.func66, Tryz.ntmps66
      go_wp2
      go_ret
      exact ⟨rfl, rfl⟩
    · obtain ⟨n, rfl⟩ := Int.eq_ofNat_of_zero_le (by omega : 0 ≤ o)
      have hn : n < 35 := by omega
      have k1 := kinds_at n hn
      have k2 := kd_in n hn
      have b0 : ((n : Int) < 0) = False := by simp
      have b1 : decide ((35 : Int) ≤ n) = false := by simp; omega
      clear h0 h1
      go_enter Tryz.func66, Tryz.ntmps66
      go_wp2_with (go_at_call 96; refine (name_any _ k2 _).mono ?_; rintro e w' ⟨rfl, rfl⟩)
      go_ret
      exact ⟨rfl, rfl⟩
theorem has_any (k : Kd) (w : World) : Calls Tryz.prog 95 #[.string k.s] w fun e w' => e = .returned (.agg #[.bool k.d, .bool k.q, .bool k.t, .bool k.i]) ∧ Chg NoB w w' := by
  cases k
  all_goals
    simp only [Kd.s, Kd.d, Kd.q, Kd.t, Kd.i]
    go_enter Tryz.func95, Tryz.ntmps95
    go_wp2
    exact bodyPost_ret (by simp [results, Tryz.results95, go_sem]) rfl ⟨rfl, (Chg.refl _ _).alloc _⟩

theorem okr_of {r : Int} {h : Bool} (h1 : r ≠ 0 → h = true) (h2 : 0 ≤ r) (h3 : r ≤ 15) : okr r h = true := by
  unfold okr
  by_cases e : r = 0
  · simp [e]
  · simp [h1 e, h2, h3]
theorem okr_no {r : Int} {h : Bool} (h1 : (r ≠ 0 ∧ h = false) ∨ r < 0 ∨ 15 < r) : okr r h = false := by
  unfold okr
  rcases h1 with ⟨a, b⟩ | a | a
  · simp [a, b]
  · have : ¬ 0 ≤ r := by omega
    simp [this]
  · have : ¬ r ≤ 15 := by omega
    simp [this]
/-- What the loop of Right finds at part n. -/
def partOk (i : In) : Nat → Bool
  | 0 => okr i.rd (kd i.op).d
  | 1 => okr i.rs (kd i.op).q
  | 2 => okr i.rt (kd i.op).t
  | _ => decide (i.im = 0) || (kd i.op).i
theorem rightB_of {i : In} (h : kd i.op ≠ .z) (h1 : -2048 ≤ i.im) (h2 : i.im ≤ 2047) (h3 : ∀ n, n < 4 → partOk i n = true) : rightB i = true := by
  have a := h3 0 (by omega)
  have b := h3 1 (by omega)
  have c := h3 2 (by omega)
  have d := h3 3 (by omega)
  simp only [partOk] at a b c d
  unfold rightB
  simp [h, h1, h2, a, b, c]
  simpa using d
theorem rightB_no {i : In} {n : Nat} (h : n < 4) (h3 : partOk i n = false) : rightB i = false := by
  unfold rightB
  match n, h with
  | 0, _ => simp only [partOk] at h3; simp [h3]
  | 1, _ => simp only [partOk] at h3; simp [h3]
  | 2, _ => simp only [partOk] at h3; simp [h3]
  | 3, _ => simp only [partOk] at h3; simp [h3]
theorem rightB_kind {i : In} (h : kd i.op = .z) : rightB i = false := by simp [rightB, h]
theorem rightB_low {i : In} (h : i.im < -2048) : rightB i = false := by have : ¬ -2048 ≤ i.im := by omega
                                                                        simp [rightB, this]
theorem rightB_high {i : In} (h : 2047 < i.im) : rightB i = false := by have : ¬ i.im ≤ 2047 := by omega
                                                                        simp [rightB, this]

theorem ret_bool {a b : Bool} (h : a = b) : Ending.returned (.bool a) = .returned (.bool b) := by rw [h]
theorem kd_z1 {k : Kd} (h : k ≠ .z) : (k.s.toList = []) = False := eq_false (by cases k <;> first | exact absurd rfl h | decide +kernel)
theorem kd_z2 {k : Kd} (h : k ≠ .z) : k.s.toList.isEmpty = false := by cases k <;> first | exact absurd rfl h | decide +kernel

set_option maxHeartbeats 2000000 in
set_option maxRecDepth 100000 in
theorem right_any (i : In) (w : World) : Calls Tryz.prog 65 #[.agg #[.int .i64 i.op, .int .i64 i.rd, .int .i64 i.rs, .int .i64 i.rt, .int .i64 i.im]] w (RetW (.bool (rightB i)) fun w' => Chg NoB w w') := by
  obtain ⟨k, hk⟩ : ∃ k, kd i.op = k := ⟨_, rfl⟩
  have HK := Lib.hid hk
  by_cases hz : k = .z
  · subst hz
    clear hk
    go_enter Tryz.func65, Tryz.ntmps65
    go_wp2_with fail
    refine (kind_any _ _).mono ?_
    rintro e w' ⟨rfl, rfl⟩
    rw [HK.out]
    simp only [Kd.s]
    go_wp2
    go_ret
    exact ⟨ret_bool (rightB_kind HK.out).symm, (Chg.refl _ _).alloc _⟩
  · have hz1 := kd_z1 hz
    have hz2 := kd_z2 hz
    clear hk
    have HZ := Lib.hid hz
    clear hz
    by_cases hl : i.im < -2048
    · go_enter Tryz.func65, Tryz.ntmps65
      go_wp2_with fail
      refine (kind_any _ _).mono ?_
      rintro e w' ⟨rfl, rfl⟩
      rw [HK.out]
      go_wp2
      go_ret
      exact ⟨ret_bool (rightB_low hl).symm, (Chg.refl _ _).alloc _⟩
    · by_cases hh : 2047 < i.im
      · go_enter Tryz.func65, Tryz.ntmps65
        go_wp2_with fail
        refine (kind_any _ _).mono ?_
        rintro e w' ⟨rfl, rfl⟩
        rw [HK.out]
        go_wp2
        go_ret
        exact ⟨ret_bool (rightB_high hh).symm, (Chg.refl _ _).alloc _⟩
      · have q1 : decide (i.im < -2048) = false := by simp; omega
        have q2 : decide (2047 < i.im) = false := by simp; omega
        have HL := Lib.hid hl
        have HH := Lib.hid hh
        clear hl hh
        go_enter Tryz.func65, Tryz.ntmps65
        go_wp2_with fail
        refine (kind_any _ _).mono ?_
        rintro e w' ⟨rfl, rfl⟩
        rw [HK.out]
        go_wp2_with fail
        refine (has_any k _).mono ?_
        rintro e w1 ⟨rfl, C1⟩
        obtain ⟨bd, hd⟩ : ∃ b, k.d = b := ⟨_, rfl⟩
        obtain ⟨bq, hq⟩ : ∃ b, k.q = b := ⟨_, rfl⟩
        obtain ⟨bt, ht⟩ : ∃ b, k.t = b := ⟨_, rfl⟩
        obtain ⟨bi, hi⟩ : ∃ b, k.i = b := ⟨_, rfl⟩
        rw [hd, hq, ht, hi]
        have HD := Lib.hid hd
        have HQ := Lib.hid hq
        have HT := Lib.hid ht
        have HI := Lib.hid hi
        clear hd hq ht hi
        have B1 := C1.blk0 (Blk.new w #[.int .i64 i.op, .int .i64 i.rd, .int .i64 i.rs, .int .i64 i.rt, .int .i64 i.im] 41)
        have x1 := B1.cell' (i := 1) (v := .int .i64 i.rd) (by rfl)
        have x2 := B1.cell' (i := 2) (v := .int .i64 i.rs) (by rfl)
        have x3 := B1.cell' (i := 3) (v := .int .i64 i.rt) (by rfl)
        have x4 := B1.cell' (i := 4) (v := .int .i64 i.im) (by rfl)
        have xl := B1.lt
        have HC := Lib.hid (((Chg.refl NoB w).alloc (.cells #[.int .i64 i.op, .int .i64 i.rd, .int .i64 i.rs, .int .i64 i.rt, .int .i64 i.im] 41)).step C1)
        clear B1 C1
        go_wp2_with fail
        clear x1 x2 x3 x4
        go_loopg [33] 4 (fun g ix wr => ∃ n : Nat, n + g = 4 ∧ ix = .int .i64 n ∧ (∀ m, m < n → partOk i m = true) ∧ wr = w1.alloc (.cells #[.bool bd, .bool bq, .bool bt, .bool bi] 203))
        case atStart => exact ⟨0, by omega, rfl, fun m hm => by omega, rfl⟩
        case round =>
          obtain ⟨n, hn, rfl, hp, rfl⟩ := hrel
          have HP := Lib.hid hp
          have hn4 : n ≤ 4 := by omega
          have HN := Lib.hid hn
          clear hp hn
          rcases (by omega : n = 0 ∨ n = 1 ∨ n = 2 ∨ n = 3 ∨ n = 4) with rfl | rfl | rfl | rfl | rfl
          ·
            have ix := fun w : World => (show (Instr.index 205 (.agg #[.int .i64 i.rd, .int .i64 i.rs, .int .i64 i.rt, .int .i64 i.im]) (.int .i64 0)).run Tryz.prog w = .ok (.int .i64 i.rd) w by kernel_rfl)
            by_cases h0 : i.rd = 0
            · have t0 : (i.rd != 0) = false := by simp [h0]
              have t1 : decide (i.rd < 0) = false := by simp; omega
              have t2 : decide (15 < i.rd) = false := by simp; omega
              have H0 := Lib.hid h0
              clear h0
              rcases bd with _ | _
              all_goals
                go_wp2
                go_roundg (4 - (0 + 1))
                case measure => have := HN.out; omega
                case rel =>
                  refine ⟨0 + 1, by have := HN.out; omega, by go_num, fun m hm => ?_, rfl⟩
                  rcases Nat.lt_succ_iff_lt_or_eq.1 hm with h | rfl
                  · exact HP.out m h
                  · exact (okr_of (fun h => absurd H0.out h) (by have := H0.out; omega) (by have := H0.out; omega))
            · have t0 : (i.rd != 0) = true := by simp [h0]
              have H0 := Lib.hid h0
              clear h0
              rcases bd with _ | _
              ·
                go_wp2
                go_ret
                exact ⟨ret_bool (rightB_no (n := 0) (by omega) (okr_no (.inl ⟨H0.out, by rw [HK.out]; exact HD.out⟩))).symm, HC.out.alloc _⟩
              · by_cases h1 : i.rd < 0
                · have t1 : decide (i.rd < 0) = true := by simp; omega
                  have H1 := Lib.hid h1
                  clear h1
                  go_wp2
                  go_ret
                  exact ⟨ret_bool (rightB_no (n := 0) (by omega) (okr_no (.inr (.inl H1.out)))).symm, HC.out.alloc _⟩
                · have t1 : decide (i.rd < 0) = false := by simp; omega
                  have H1 := Lib.hid h1
                  by_cases h2 : 15 < i.rd
                  · have t2 : decide (15 < i.rd) = true := by simp; omega
                    have H2 := Lib.hid h2
                    clear h1 h2
                    go_wp2
                    go_ret
                    exact ⟨ret_bool (rightB_no (n := 0) (by omega) (okr_no (.inr (.inr H2.out)))).symm, HC.out.alloc _⟩
                  · have t2 : decide (15 < i.rd) = false := by simp; omega
                    have H2 := Lib.hid h2
                    clear h1 h2
                    go_wp2
                    go_roundg (4 - (0 + 1))
                    case measure => have := HN.out; omega
                    case rel =>
                      refine ⟨0 + 1, by have := HN.out; omega, by go_num, fun m hm => ?_, rfl⟩
                      rcases Nat.lt_succ_iff_lt_or_eq.1 hm with h | rfl
                      · exact HP.out m h
                      · exact (okr_of (fun h => by rw [HK.out]; exact HD.out) (by have := H1.out; omega) (by have := H2.out; omega))
          ·
            have ix := fun w : World => (show (Instr.index 205 (.agg #[.int .i64 i.rd, .int .i64 i.rs, .int .i64 i.rt, .int .i64 i.im]) (.int .i64 1)).run Tryz.prog w = .ok (.int .i64 i.rs) w by kernel_rfl)
            by_cases h0 : i.rs = 0
            · have t0 : (i.rs != 0) = false := by simp [h0]
              have t1 : decide (i.rs < 0) = false := by simp; omega
              have t2 : decide (15 < i.rs) = false := by simp; omega
              have H0 := Lib.hid h0
              clear h0
              rcases bq with _ | _
              all_goals
                go_wp2
                go_roundg (4 - (1 + 1))
                case measure => have := HN.out; omega
                case rel =>
                  refine ⟨1 + 1, by have := HN.out; omega, by go_num, fun m hm => ?_, rfl⟩
                  rcases Nat.lt_succ_iff_lt_or_eq.1 hm with h | rfl
                  · exact HP.out m h
                  · exact (okr_of (fun h => absurd H0.out h) (by have := H0.out; omega) (by have := H0.out; omega))
            · have t0 : (i.rs != 0) = true := by simp [h0]
              have H0 := Lib.hid h0
              clear h0
              rcases bq with _ | _
              ·
                go_wp2
                go_ret
                exact ⟨ret_bool (rightB_no (n := 1) (by omega) (okr_no (.inl ⟨H0.out, by rw [HK.out]; exact HQ.out⟩))).symm, HC.out.alloc _⟩
              · by_cases h1 : i.rs < 0
                · have t1 : decide (i.rs < 0) = true := by simp; omega
                  have H1 := Lib.hid h1
                  clear h1
                  go_wp2
                  go_ret
                  exact ⟨ret_bool (rightB_no (n := 1) (by omega) (okr_no (.inr (.inl H1.out)))).symm, HC.out.alloc _⟩
                · have t1 : decide (i.rs < 0) = false := by simp; omega
                  have H1 := Lib.hid h1
                  by_cases h2 : 15 < i.rs
                  · have t2 : decide (15 < i.rs) = true := by simp; omega
                    have H2 := Lib.hid h2
                    clear h1 h2
                    go_wp2
                    go_ret
                    exact ⟨ret_bool (rightB_no (n := 1) (by omega) (okr_no (.inr (.inr H2.out)))).symm, HC.out.alloc _⟩
                  · have t2 : decide (15 < i.rs) = false := by simp; omega
                    have H2 := Lib.hid h2
                    clear h1 h2
                    go_wp2
                    go_roundg (4 - (1 + 1))
                    case measure => have := HN.out; omega
                    case rel =>
                      refine ⟨1 + 1, by have := HN.out; omega, by go_num, fun m hm => ?_, rfl⟩
                      rcases Nat.lt_succ_iff_lt_or_eq.1 hm with h | rfl
                      · exact HP.out m h
                      · exact (okr_of (fun h => by rw [HK.out]; exact HQ.out) (by have := H1.out; omega) (by have := H2.out; omega))
          ·
            have ix := fun w : World => (show (Instr.index 205 (.agg #[.int .i64 i.rd, .int .i64 i.rs, .int .i64 i.rt, .int .i64 i.im]) (.int .i64 2)).run Tryz.prog w = .ok (.int .i64 i.rt) w by kernel_rfl)
            by_cases h0 : i.rt = 0
            · have t0 : (i.rt != 0) = false := by simp [h0]
              have t1 : decide (i.rt < 0) = false := by simp; omega
              have t2 : decide (15 < i.rt) = false := by simp; omega
              have H0 := Lib.hid h0
              clear h0
              rcases bt with _ | _
              all_goals
                go_wp2
                go_roundg (4 - (2 + 1))
                case measure => have := HN.out; omega
                case rel =>
                  refine ⟨2 + 1, by have := HN.out; omega, by go_num, fun m hm => ?_, rfl⟩
                  rcases Nat.lt_succ_iff_lt_or_eq.1 hm with h | rfl
                  · exact HP.out m h
                  · exact (okr_of (fun h => absurd H0.out h) (by have := H0.out; omega) (by have := H0.out; omega))
            · have t0 : (i.rt != 0) = true := by simp [h0]
              have H0 := Lib.hid h0
              clear h0
              rcases bt with _ | _
              ·
                go_wp2
                go_ret
                exact ⟨ret_bool (rightB_no (n := 2) (by omega) (okr_no (.inl ⟨H0.out, by rw [HK.out]; exact HT.out⟩))).symm, HC.out.alloc _⟩
              · by_cases h1 : i.rt < 0
                · have t1 : decide (i.rt < 0) = true := by simp; omega
                  have H1 := Lib.hid h1
                  clear h1
                  go_wp2
                  go_ret
                  exact ⟨ret_bool (rightB_no (n := 2) (by omega) (okr_no (.inr (.inl H1.out)))).symm, HC.out.alloc _⟩
                · have t1 : decide (i.rt < 0) = false := by simp; omega
                  have H1 := Lib.hid h1
                  by_cases h2 : 15 < i.rt
                  · have t2 : decide (15 < i.rt) = true := by simp; omega
                    have H2 := Lib.hid h2
                    clear h1 h2
                    go_wp2
                    go_ret
                    exact ⟨ret_bool (rightB_no (n := 2) (by omega) (okr_no (.inr (.inr H2.out)))).symm, HC.out.alloc _⟩
                  · have t2 : decide (15 < i.rt) = false := by simp; omega
                    have H2 := Lib.hid h2
                    clear h1 h2
                    go_wp2
                    go_roundg (4 - (2 + 1))
                    case measure => have := HN.out; omega
                    case rel =>
                      refine ⟨2 + 1, by have := HN.out; omega, by go_num, fun m hm => ?_, rfl⟩
                      rcases Nat.lt_succ_iff_lt_or_eq.1 hm with h | rfl
                      · exact HP.out m h
                      · exact (okr_of (fun h => by rw [HK.out]; exact HT.out) (by have := H1.out; omega) (by have := H2.out; omega))
          · have ix := fun w : World => (show (Instr.index 205 (.agg #[.int .i64 i.rd, .int .i64 i.rs, .int .i64 i.rt, .int .i64 i.im]) (.int .i64 3)).run Tryz.prog w = .ok (.int .i64 i.im) w by kernel_rfl)
            by_cases h0 : i.im = 0
            · have t0 : (i.im != 0) = false := by simp [h0]
              have H0 := Lib.hid h0
              clear h0
              rcases bi with _ | _
              all_goals
                go_wp2
                go_roundg (4 - (3 + 1))
                case measure => have := HN.out; omega
                case rel =>
                  refine ⟨3 + 1, by have := HN.out; omega, by go_num, fun m hm => ?_, rfl⟩
                  rcases Nat.lt_succ_iff_lt_or_eq.1 hm with h | rfl
                  · exact HP.out m h
                  · exact (by show (decide (i.im = 0) || (kd i.op).i) = true; rw [H0.out]; rfl)
            · have t0 : (i.im != 0) = true := by simp [h0]
              have H0 := Lib.hid h0
              clear h0
              rcases bi with _ | _
              ·
                go_wp2
                go_ret
                exact ⟨ret_bool (rightB_no (n := 3) (by omega) (by show (decide (i.im = 0) || (kd i.op).i) = false; rw [HK.out, HI.out]; simp [H0.out])).symm, HC.out.alloc _⟩
              ·
                go_wp2
                go_roundg (4 - (3 + 1))
                case measure => have := HN.out; omega
                case rel =>
                  refine ⟨3 + 1, by have := HN.out; omega, by go_num, fun m hm => ?_, rfl⟩
                  rcases Nat.lt_succ_iff_lt_or_eq.1 hm with h | rfl
                  · exact HP.out m h
                  · exact (by show (decide (i.im = 0) || (kd i.op).i) = true; rw [HK.out, HI.out]; simp)
          · go_wp2
            go_ret
            exact ⟨ret_bool (rightB_of (by rw [HK.out]; exact HZ.out) (by have := HL.out; omega) (by have := HH.out; omega) HP.out).symm, HC.out.alloc _⟩
end Go.Proofs.YtapmojfebljjnaaGreat
