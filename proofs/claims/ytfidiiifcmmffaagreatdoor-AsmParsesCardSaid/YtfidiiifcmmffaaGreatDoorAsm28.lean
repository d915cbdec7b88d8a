/- The reference's eat and number are the plain readings. No condition. -/
import Derived.Test.YtfidiiifcmmffaaGreatDoorAsm22
import Derived.Test.YtfidiiifcmmffaaGreatDoorAsm9
set_option linter.unusedVariables false
set_option linter.unusedSimpArgs false
namespace Go.Proofs.YtfidiiifcmmffaaGreatDoor
open Go.RowKit Go.RR
/-- What eat answers: the length of the text that stands at the head, or nothing. -/
def eatF (s p : Bs) : Nat := if p.isPrefixOf s = true then p.length else 0
theorem eat_take {s p : Bs} (h : p.length ≤ s.length) : (s.take p.length == p) = p.isPrefixOf s := by
  rw [Bool.eq_iff_iff, beq_iff_eq, List.isPrefixOf_iff_prefix, List.prefix_iff_eq_take]
  exact eq_comm
theorem eat_short {s p : Bs} (h : s.length < p.length) : p.isPrefixOf s = false := by
  cases hp : p.isPrefixOf s with
  | false => rfl
  | true => have := (List.isPrefixOf_iff_prefix.1 hp).length_le; omega
theorem ex_take (s : Bs) (k : Nat) : (ByteArray.mk s.toArray).extract 0 k = ⟨(s.take k).toArray⟩ := by
  apply ByteArray.ext
  rw [ByteArray.data_extract]
  apply Array.ext'
  simp
theorem ex_drop (s : Bs) (k : Nat) : (ByteArray.mk s.toArray).extract k s.length = ⟨(s.drop k).toArray⟩ := by
  apply ByteArray.ext
  rw [ByteArray.data_extract]
  apply Array.ext'
  simp
  exact List.take_of_length_le (by simp)
set_option maxHeartbeats 4000000 in
set_option maxRecDepth 100000 in
theorem eat_any (s p : Bs) (w : World) (hs : s.length ≤ 100000) (hp : p.length ≤ 100000) : Calls Tryz.prog 35 #[.string ⟨s.toArray⟩, .string ⟨p.toArray⟩] w (RetW (.int .i64 (eatF s p)) fun w' => w' = w) := by
  by_cases hlt : s.length < p.length
  · have HF : Hid (eatF s p = 0) := Lib.hid (by unfold eatF; rw [eat_short hlt]; rfl)
    have q1 : decide ((p.length : Int) ≤ s.length) = false := decide_eq_false (by omega)
    have q2 : decide (p.length ≤ s.length) = false := decide_eq_false (by omega)
    clear hlt
    go_enter Tryz.func35, Tryz.ntmps35
    go_wp2_with fail
    go_ret
    exact ⟨by rw [HF.out]; rfl, rfl⟩
  · have hle : p.length ≤ s.length := by omega
    have q1 : decide ((p.length : Int) ≤ s.length) = true := decide_eq_true (by omega)
    have q2 : decide (p.length ≤ s.length) = true := decide_eq_true (by omega)
    have HF : Hid (eatF s p = if (s.take p.length == p) = true then p.length else 0) := Lib.hid (by unfold eatF; rw [eat_take hle])
    have x1 := ex_take s p.length
    have b1 := bl_list (s.take p.length)
    have b2 := bl_list p
    obtain ⟨y, hy⟩ : ∃ y, (s.take p.length == p) = y := ⟨_, rfl⟩
    rw [hy] at HF
    cases y
    · go_enter Tryz.func35, Tryz.ntmps35
      go_wp2_with fail
      go_ret
      exact ⟨by rw [HF.out]; rfl, rfl⟩
    · go_enter Tryz.func35, Tryz.ntmps35
      go_wp2_with fail
      go_ret
      exact ⟨by rw [HF.out]; rfl, rfl⟩
theorem digs_cons {f : Nat} {c : UInt8} {r : Bs} (h : isDig c = true) : digs (f + 1) (c :: r) = c :: digs f r := by
  show (if isDig c = true then c :: digs f r else []) = _
  rw [if_pos h]
theorem digs_stop {f : Nat} {c : UInt8} {r : Bs} (h : isDig c = false) : digs (f + 1) (c :: r) = [] := by
  show (if isDig c = true then c :: digs f r else []) = _
  rw [if_neg (by rw [h]; simp)]
theorem isDig_b (c : UInt8) : isDig c = (decide (48 ≤ (c.toNat : Int)) && decide ((c.toNat : Int) ≤ 57)) := by
  unfold isDig
  rw [Bool.eq_iff_iff]
  simp
  omega
theorem valD_bound (l : Bs) (k : Nat) (h : ∀ c ∈ l, isDig c = true) (hk : l.length = k) (h6 : k ≤ 6) : valD l < 1000000 := by
  have h1 := valD_lt l h
  rw [hk] at h1
  have h2 : 10 ^ k ≤ 10 ^ 6 := Nat.pow_le_pow_right (by omega) h6
  have h3 : (10 : Nat) ^ 6 = 1000000 := rfl
  omega
theorem numA_zero {s : Bs} (h : dA s = []) : numA s = (0, 0) := by unfold numA; rw [if_pos (.inl h)]
theorem numA_bad {s : Bs} {n : Int} {j : Nat} (hn : nA s = n) (hj : stA s + (dA s).length = j) (h : (Go.Lib.itoa n != s.take j) = true) : numA s = (0, 0) := by
  unfold numA
  rw [hn, hj, if_pos (.inr (by simpa using h))]
theorem numA_good {s : Bs} {n : Int} {j : Nat} (h0 : dA s ≠ []) (hn : nA s = n) (hj : stA s + (dA s).length = j) (h : (Go.Lib.itoa n != s.take j) = false) : numA s = (n, j) := by
  unfold numA
  rw [hn, hj, if_neg (by
    rintro (h1 | h1)
    · exact h0 h1
    · exact h1 (by simpa using h))]
theorem dig_cases (D : Bs) (k : Nat) (hk : k ≤ 6) (hkl : k ≤ D.length) : (D.length = k ∧ digs (6 - k) (D.drop k) = []) ∨ (k = 6 ∧ k < D.length ∧ digs (6 - k) (D.drop k) = []) ∨
    (∃ c, D[k]? = some c ∧ k < 6 ∧ decide (48 ≤ (c.toNat : Int)) = false ∧ digs (6 - k) (D.drop k) = []) ∨
    (∃ c, D[k]? = some c ∧ k < 6 ∧ decide (48 ≤ (c.toNat : Int)) = true ∧ decide ((c.toNat : Int) ≤ 57) = false ∧ digs (6 - k) (D.drop k) = []) ∨
    (∃ c, D[k]? = some c ∧ k < 6 ∧ isDig c = true) := by
  by_cases hend : k < D.length
  · by_cases h6 : k < 6
    · obtain ⟨c, hc⟩ : ∃ c, D[k]? = some c := ⟨_, List.getElem?_eq_getElem hend⟩
      have hdk : D.drop k = c :: D.drop (k + 1) := by
        rw [List.drop_eq_getElem_cons hend]
        congr 1
        rw [List.getElem?_eq_getElem hend] at hc
        exact Option.some.inj hc
      have hst : isDig c = false → digs (6 - k) (D.drop k) = [] := fun h => by rw [hdk, show 6 - k = (5 - k) + 1 by omega]; exact digs_stop h
      have hdb := isDig_b c
      cases q1 : decide (48 ≤ (c.toNat : Int)) with
      | false => exact .inr (.inr (.inl ⟨c, hc, h6, q1, hst (by rw [hdb, q1]; rfl)⟩))
      | true =>
        cases q2 : decide ((c.toNat : Int) ≤ 57) with
        | false => exact .inr (.inr (.inr (.inl ⟨c, hc, h6, q1, q2, hst (by rw [hdb, q1, q2]; rfl)⟩)))
        | true => exact .inr (.inr (.inr (.inr ⟨c, hc, h6, by rw [hdb, q1, q2]; rfl⟩)))
    · exact .inr (.inl ⟨by omega, hend, by rw [show 6 - k = 0 by omega]; rfl⟩)
  · refine .inl ⟨by omega, ?_⟩
    rw [List.drop_eq_nil_of_le (by omega)]
    cases 6 - k <;> rfl
theorem byte_at {s : Bs} {j : Nat} {c : UInt8} (h : s[j]? = some c) : ∃ hj : j < (⟨s.toArray⟩ : ByteArray).size, (⟨s.toArray⟩ : ByteArray)[j]'hj = c := by
  have hjl : j < s.length := (List.getElem?_eq_some_iff.1 h).1
  refine ⟨hjl, ?_⟩
  have h1 := ba_at' ⟨s.toArray⟩ j hjl
  rw [show (⟨s.toArray⟩ : ByteArray).data.toList = s from rfl, h] at h1
  exact (Option.some.inj h1).symm
set_option maxHeartbeats 16000000 in
set_option maxRecDepth 100000 in
theorem rnumber_any (s : Bs) (w : World) (hs : s.length ≤ 100000) : Calls Tryz.prog 36 #[.string ⟨s.toArray⟩] w (RetW (.tuple #[.int .i64 (numA s).1, .int .i64 (numA s).2]) fun w' => Chg NoB w w') := by
  by_cases h0 : s = []
  · subst h0
    go_enter Tryz.func36, Tryz.ntmps36
    go_wp2_with fail
    go_loopg [4, 5] 0 (fun g ix nv wr => ix = .int .i64 0 ∧ nv = .int .i64 0 ∧ wr = w)
    case atStart => exact ⟨rfl, rfl, rfl⟩
    case round =>
      obtain ⟨rfl, rfl, rfl⟩ := hrel
      go_wp2_with fail
      go_quiet (fail)
      go_wp2_with fail
      go_ret2
      exact ⟨rfl, Chg.of_drewN NoB _⟩
  · obtain ⟨c0, hc0⟩ : ∃ c, s[0]? = some c := by cases s with
      | nil => exact absurd rfl h0
      | cons a r => exact ⟨a, rfl⟩
    obtain ⟨hsz0, hv0⟩ := byte_at hc0
    have hpos : 0 < s.length := hsz0
    have z0 : decide ((0 : Int) < s.length) = true := decide_eq_true (by omega)
    have z1 : decide (0 < s.length) = true := decide_eq_true hpos
    have hh : s.head? = some c0 := by cases s with
      | nil => exact absurd rfl h0
      | cons a r => exact hc0
    by_cases hm : c0 = 45
    · subst hm
      have HM : Hid (minusB s = true) := Lib.hid (by unfold minusB; rw [hh]; rfl)
      have HST : Hid (stA s = 1) := Lib.hid (by unfold stA; rw [HM.out]; rfl)
      obtain ⟨D, hD⟩ : ∃ D, s.drop 1 = D := ⟨_, rfl⟩
      have HD := Lib.hid hD
      have HSL : Hid (s.length = 1 + D.length) := Lib.hid (by rw [← hD, List.length_drop]; omega)
      clear hD hc0 hh h0
      go_enter Tryz.func36, Tryz.ntmps36
      go_wp2_with fail
      go_loopg [4, 5] 6 (fun g ix nv wr => ∃ k j : Nat, k + g = 6 ∧ j = 1 + k ∧ ix = .int .i64 (j : Int) ∧ nv = .int .i64 (valD (D.take k)) ∧ k ≤ D.length ∧ digs 6 D = D.take k ++ digs (6 - k) (D.drop k) ∧ (∀ c ∈ D.take k, isDig c = true) ∧ wr = w)
      case atStart => exact ⟨0, 1, rfl, rfl, rfl, rfl, Nat.zero_le _, rfl, fun c h => (by cases h), rfl⟩
      case round =>
        obtain ⟨k, j, hk, hj, rfl, rfl, hkl, hdg, hal, rfl⟩ := hrel
        have HK := Lib.hid hk
        have HJ := Lib.hid hj
        have HDG := Lib.hid hdg
        have HAL := Lib.hid hal
        have hk6 : k ≤ 6 := by omega
        have j0 : (0 : Int) ≤ j := by omega
        have hget : ∀ c, D[k]? = some c → s[j]? = some c := fun c hc => by rw [hj, ← hc, ← HD.out, List.getElem?_drop]
        rcases dig_cases D k hk6 hkl with ⟨he, hstop⟩ | ⟨he, he2, hstop⟩ | ⟨c, hc, he, q1, hstop⟩ | ⟨c, hc, he, q1, q2, hstop⟩ | ⟨c, hc, he, hdig⟩
        case' inl =>
          have p1 : decide ((j : Int) < s.length) = false := decide_eq_false (by have := HSL.out; omega)
          have p1' : decide (j < s.length) = false := decide_eq_false (by have := HSL.out; omega)
        case' inr.inl =>
          have p1 : decide ((j : Int) < s.length) = true := decide_eq_true (by have := HSL.out; omega)
          have p1' : decide (j < s.length) = true := decide_eq_true (by have := HSL.out; omega)
          have p2 : decide ((j : Int) < 7) = false := decide_eq_false (by omega)
        case' inr.inr.inl =>
          obtain ⟨hsz, hv⟩ := byte_at (hget c hc)
          have p1' : decide (j < s.length) = true := decide_eq_true hsz
          have p1 : decide ((j : Int) < s.length) = true := decide_eq_true (by have : j < s.length := hsz; omega)
          have p2 : decide ((j : Int) < 7) = true := decide_eq_true (by omega)
          clear hc
        case' inr.inr.inr.inl =>
          obtain ⟨hsz, hv⟩ := byte_at (hget c hc)
          have p1' : decide (j < s.length) = true := decide_eq_true hsz
          have p1 : decide ((j : Int) < s.length) = true := decide_eq_true (by have : j < s.length := hsz; omega)
          have p2 : decide ((j : Int) < 7) = true := decide_eq_true (by omega)
          clear hc
        case inr.inr.inr.inr =>
          obtain ⟨hsz, hv⟩ := byte_at (hget c hc)
          have p1' : decide (j < s.length) = true := decide_eq_true hsz
          have p1 : decide ((j : Int) < s.length) = true := decide_eq_true (by have : j < s.length := hsz; omega)
          have p2 : decide ((j : Int) < 7) = true := decide_eq_true (by omega)
          have hend : k < D.length := (List.getElem?_eq_some_iff.1 hc).1
          have hdk : D.drop k = c :: D.drop (k + 1) := by
            rw [List.drop_eq_getElem_cons hend]
            congr 1
            rw [List.getElem?_eq_getElem hend] at hc
            exact Option.some.inj hc
          have hdb := hdig
          rw [isDig_b] at hdb
          simp only [Bool.and_eq_true, decide_eq_true_eq] at hdb
          obtain ⟨d1, d2⟩ := hdb
          have q1 : decide (48 ≤ (c.toNat : Int)) = true := decide_eq_true d1
          have q2 : decide ((c.toNat : Int) ≤ 57) = true := decide_eq_true d2
          have hvb := valD_bound (D.take k) k HAL.out (by rw [List.length_take]; omega) (by omega)
          have htk : D.take (k + 1) = D.take k ++ [c] := by rw [List.take_add_one, hc]; rfl
          have HVN : Hid (valD (D.take (k + 1)) = 10 * valD (D.take k) + (c.toNat - 48)) := Lib.hid (by rw [htk, valD_app])
          have HDG2 : Hid (digs 6 D = D.take (k + 1) ++ digs (6 - (k + 1)) (D.drop (k + 1))) := Lib.hid (by
            rw [HDG.out, hdk, show 6 - k = (6 - (k + 1)) + 1 by omega, digs_cons hdig, htk]
            simp)
          have HAL2 : Hid (∀ c ∈ D.take (k + 1), isDig c = true) := Lib.hid (by
            rw [htk]
            intro x hx
            rcases List.mem_append.1 hx with hx | hx
            · exact HAL.out x hx
            · rw [List.mem_singleton] at hx; rw [hx]; exact hdig)
          obtain ⟨n, hn⟩ : ∃ n, valD (D.take k) = n := ⟨_, rfl⟩
          rw [hn] at hvb HVN ⊢
          have n0 : (0 : Int) ≤ n := by omega
          have n1 : (n : Int) ≤ 1000000 := by omega
          clear hn hc hdk htk hdig hj hk hdg hal hget
          go_wp2_with fail
          go_roundg (6 - (k + 1))
          case measure => have := HK.out; omega
          case rel => exact ⟨k + 1, j + 1, by have := HK.out; omega, by have := HJ.out; omega, by go_num, by rw [HVN.out]; congr 1; omega, by omega, HDG2.out, HAL2.out, rfl⟩
        all_goals
          clear hj hk hdg hal hget
          have HDA : Hid (dA s = D.take k) := Lib.hid (by
            show digs 6 (s.drop (stA s)) = _
            rw [HST.out, HD.out, HDG.out, hstop, List.append_nil])
          have hvb := valD_bound (D.take k) k HAL.out (by rw [List.length_take]; omega) (by omega)
          obtain ⟨n, hn⟩ : ∃ n, valD (D.take k) = n := ⟨_, rfl⟩
          rw [hn] at hvb ⊢
          have HNA : Hid (nA s = -(n : Int)) := Lib.hid (by unfold nA; rw [HDA.out, hn, HM.out]; rfl)
          have HJL : Hid (stA s + (dA s).length = j) := Lib.hid (by rw [HDA.out, HST.out, List.length_take]; have := HJ.out; omega)
          have n0 : (0 : Int) ≤ n := by omega
          have n1 : (n : Int) ≤ 1000000 := by omega
          have hib : i64 (-(n : Int)) := ⟨by omega, by omega⟩
          have HNM := Lib.hid fun w => num_any (-(n : Int)) w hib
          clear hstop hn hvb hib
          by_cases hk0 : k = 0
          · have HR : Hid (numA s = (0, 0)) := Lib.hid (numA_zero (by rw [HDA.out, hk0]; rfl))
            have hj0 : ((j : Int) == 1) = true := by rw [beq_iff_eq]; have := HJ.out; omega
            clear hk0
            go_wp2_with fail
            go_quiet (fail)
            go_wp2_with fail
            go_ret2
            exact ⟨by rw [HR.out]; rfl, Chg.of_drewN NoB _⟩
          · have hj0 : ((j : Int) == 1) = false := by rw [beq_eq_false_iff_ne]; have := HJ.out; omega
            have HNE : Hid (dA s ≠ []) := Lib.hid (by
              rw [HDA.out]
              intro e
              have := congrArg List.length e
              rw [List.length_take, List.length_nil] at this
              omega)
            obtain ⟨y, hy⟩ : ∃ y, (Go.Lib.itoa (-(n : Int)) != s.take j) = y := ⟨_, rfl⟩
            have HY := Lib.hid hy
            have hyb : (Go.Lib.itoa (-(n : Int)) == s.take j) = (!y) := by rw [← hy, bne, Bool.not_not]
            have bl1 := bl_list (Go.Lib.itoa (-(n : Int)))
            have bl2 := bl_list (s.take j)
            have x1 := ex_take s j
            have hjs : (j : Int) ≤ s.length := by have := HJ.out; have := HSL.out; omega
            have hj00 : (0 : Int) ≤ j := by omega
            have hjsn : j ≤ s.length := by omega
            clear hk0
            cases y
            · have HR : Hid (numA s = (-(n : Int), j)) := Lib.hid (numA_good HNE.out HNA.out HJL.out HY.out)
              go_wp2_with fail
              go_quiet ((go_at_call 24; exact quietW HNM.out))
              go_wp2_with fail
              go_ret2
              exact ⟨by rw [HR.out]; rfl, Chg.of_drewN NoB _⟩
            · have HR : Hid (numA s = (0, 0)) := Lib.hid (numA_bad HNA.out HJL.out HY.out)
              go_wp2_with fail
              go_quiet ((go_at_call 24; exact quietW HNM.out))
              go_wp2_with fail
              go_ret2
              exact ⟨by rw [HR.out]; rfl, Chg.of_drewN NoB _⟩
    · have hq : ((c0.toNat : Int) == 45) = false := by
        rw [beq_eq_false_iff_ne]
        intro e
        exact hm (UInt8.toNat_inj.1 (by show c0.toNat = 45; omega))
      have HM : Hid (minusB s = false) := Lib.hid (by unfold minusB; rw [hh]; simpa using hm)
      have HST : Hid (stA s = 0) := Lib.hid (by unfold stA; rw [HM.out]; rfl)
      obtain ⟨D, hD⟩ : ∃ D, s.drop 0 = D := ⟨_, rfl⟩
      have HD := Lib.hid hD
      have HSL : Hid (s.length = 0 + D.length) := Lib.hid (by rw [← hD, List.length_drop]; omega)
      clear hD hc0 hh h0 hm
      go_enter Tryz.func36, Tryz.ntmps36
      go_wp2_with fail
      go_loopg [4, 5] 6 (fun g ix nv wr => ∃ k j : Nat, k + g = 6 ∧ j = 0 + k ∧ ix = .int .i64 (j : Int) ∧ nv = .int .i64 (valD (D.take k)) ∧ k ≤ D.length ∧ digs 6 D = D.take k ++ digs (6 - k) (D.drop k) ∧ (∀ c ∈ D.take k, isDig c = true) ∧ wr = w)
      case atStart => exact ⟨0, 0, rfl, rfl, rfl, rfl, Nat.zero_le _, rfl, fun c h => (by cases h), rfl⟩
      case round =>
        obtain ⟨k, j, hk, hj, rfl, rfl, hkl, hdg, hal, rfl⟩ := hrel
        have HK := Lib.hid hk
        have HJ := Lib.hid hj
        have HDG := Lib.hid hdg
        have HAL := Lib.hid hal
        have hk6 : k ≤ 6 := by omega
        have j0 : (0 : Int) ≤ j := by omega
        have hget : ∀ c, D[k]? = some c → s[j]? = some c := fun c hc => by rw [hj, ← hc, ← HD.out, List.getElem?_drop]
        rcases dig_cases D k hk6 hkl with ⟨he, hstop⟩ | ⟨he, he2, hstop⟩ | ⟨c, hc, he, q1, hstop⟩ | ⟨c, hc, he, q1, q2, hstop⟩ | ⟨c, hc, he, hdig⟩
        case' inl =>
          have p1 : decide ((j : Int) < s.length) = false := decide_eq_false (by have := HSL.out; omega)
          have p1' : decide (j < s.length) = false := decide_eq_false (by have := HSL.out; omega)
        case' inr.inl =>
          have p1 : decide ((j : Int) < s.length) = true := decide_eq_true (by have := HSL.out; omega)
          have p1' : decide (j < s.length) = true := decide_eq_true (by have := HSL.out; omega)
          have p2 : decide ((j : Int) < 6) = false := decide_eq_false (by omega)
        case' inr.inr.inl =>
          obtain ⟨hsz, hv⟩ := byte_at (hget c hc)
          have p1' : decide (j < s.length) = true := decide_eq_true hsz
          have p1 : decide ((j : Int) < s.length) = true := decide_eq_true (by have : j < s.length := hsz; omega)
          have p2 : decide ((j : Int) < 6) = true := decide_eq_true (by omega)
          clear hc
        case' inr.inr.inr.inl =>
          obtain ⟨hsz, hv⟩ := byte_at (hget c hc)
          have p1' : decide (j < s.length) = true := decide_eq_true hsz
          have p1 : decide ((j : Int) < s.length) = true := decide_eq_true (by have : j < s.length := hsz; omega)
          have p2 : decide ((j : Int) < 6) = true := decide_eq_true (by omega)
          clear hc
        case inr.inr.inr.inr =>
          obtain ⟨hsz, hv⟩ := byte_at (hget c hc)
          have p1' : decide (j < s.length) = true := decide_eq_true hsz
          have p1 : decide ((j : Int) < s.length) = true := decide_eq_true (by have : j < s.length := hsz; omega)
          have p2 : decide ((j : Int) < 6) = true := decide_eq_true (by omega)
          have hend : k < D.length := (List.getElem?_eq_some_iff.1 hc).1
          have hdk : D.drop k = c :: D.drop (k + 1) := by
            rw [List.drop_eq_getElem_cons hend]
            congr 1
            rw [List.getElem?_eq_getElem hend] at hc
            exact Option.some.inj hc
          have hdb := hdig
          rw [isDig_b] at hdb
          simp only [Bool.and_eq_true, decide_eq_true_eq] at hdb
          obtain ⟨d1, d2⟩ := hdb
          have q1 : decide (48 ≤ (c.toNat : Int)) = true := decide_eq_true d1
          have q2 : decide ((c.toNat : Int) ≤ 57) = true := decide_eq_true d2
          have hvb := valD_bound (D.take k) k HAL.out (by rw [List.length_take]; omega) (by omega)
          have htk : D.take (k + 1) = D.take k ++ [c] := by rw [List.take_add_one, hc]; rfl
          have HVN : Hid (valD (D.take (k + 1)) = 10 * valD (D.take k) + (c.toNat - 48)) := Lib.hid (by rw [htk, valD_app])
          have HDG2 : Hid (digs 6 D = D.take (k + 1) ++ digs (6 - (k + 1)) (D.drop (k + 1))) := Lib.hid (by
            rw [HDG.out, hdk, show 6 - k = (6 - (k + 1)) + 1 by omega, digs_cons hdig, htk]
            simp)
          have HAL2 : Hid (∀ c ∈ D.take (k + 1), isDig c = true) := Lib.hid (by
            rw [htk]
            intro x hx
            rcases List.mem_append.1 hx with hx | hx
            · exact HAL.out x hx
            · rw [List.mem_singleton] at hx; rw [hx]; exact hdig)
          obtain ⟨n, hn⟩ : ∃ n, valD (D.take k) = n := ⟨_, rfl⟩
          rw [hn] at hvb HVN ⊢
          have n0 : (0 : Int) ≤ n := by omega
          have n1 : (n : Int) ≤ 1000000 := by omega
          clear hn hc hdk htk hdig hj hk hdg hal hget
          go_wp2_with fail
          go_roundg (6 - (k + 1))
          case measure => have := HK.out; omega
          case rel => exact ⟨k + 1, j + 1, by have := HK.out; omega, by have := HJ.out; omega, by go_num, by rw [HVN.out]; congr 1; omega, by omega, HDG2.out, HAL2.out, rfl⟩
        all_goals
          clear hj hk hdg hal hget
          have HDA : Hid (dA s = D.take k) := Lib.hid (by
            show digs 6 (s.drop (stA s)) = _
            rw [HST.out, HD.out, HDG.out, hstop, List.append_nil])
          have hvb := valD_bound (D.take k) k HAL.out (by rw [List.length_take]; omega) (by omega)
          obtain ⟨n, hn⟩ : ∃ n, valD (D.take k) = n := ⟨_, rfl⟩
          rw [hn] at hvb ⊢
          have HNA : Hid (nA s = (n : Int)) := Lib.hid (by unfold nA; rw [HDA.out, hn, HM.out]; rfl)
          have HJL : Hid (stA s + (dA s).length = j) := Lib.hid (by rw [HDA.out, HST.out, List.length_take]; have := HJ.out; omega)
          have n0 : (0 : Int) ≤ n := by omega
          have n1 : (n : Int) ≤ 1000000 := by omega
          have hib : i64 ((n : Int)) := ⟨by omega, by omega⟩
          have HNM := Lib.hid fun w => num_any ((n : Int)) w hib
          clear hstop hn hvb hib
          by_cases hk0 : k = 0
          · have HR : Hid (numA s = (0, 0)) := Lib.hid (numA_zero (by rw [HDA.out, hk0]; rfl))
            have hj0 : ((j : Int) == 0) = true := by rw [beq_iff_eq]; have := HJ.out; omega
            clear hk0
            go_wp2_with fail
            go_quiet (fail)
            go_wp2_with fail
            go_ret2
            exact ⟨by rw [HR.out]; rfl, Chg.of_drewN NoB _⟩
          · have hj0 : ((j : Int) == 0) = false := by rw [beq_eq_false_iff_ne]; have := HJ.out; omega
            have HNE : Hid (dA s ≠ []) := Lib.hid (by
              rw [HDA.out]
              intro e
              have := congrArg List.length e
              rw [List.length_take, List.length_nil] at this
              omega)
            obtain ⟨y, hy⟩ : ∃ y, (Go.Lib.itoa ((n : Int)) != s.take j) = y := ⟨_, rfl⟩
            have HY := Lib.hid hy
            have hyb : (Go.Lib.itoa ((n : Int)) == s.take j) = (!y) := by rw [← hy, bne, Bool.not_not]
            have bl1 := bl_list (Go.Lib.itoa ((n : Int)))
            have bl2 := bl_list (s.take j)
            have x1 := ex_take s j
            have hjs : (j : Int) ≤ s.length := by have := HJ.out; have := HSL.out; omega
            have hj00 : (0 : Int) ≤ j := by omega
            have hjsn : j ≤ s.length := by omega
            clear hk0
            cases y
            · have HR : Hid (numA s = ((n : Int), j)) := Lib.hid (numA_good HNE.out HNA.out HJL.out HY.out)
              go_wp2_with fail
              go_quiet ((go_at_call 24; exact quietW HNM.out))
              go_wp2_with fail
              go_ret2
              exact ⟨by rw [HR.out]; rfl, Chg.of_drewN NoB _⟩
            · have HR : Hid (numA s = (0, 0)) := Lib.hid (numA_bad HNA.out HJL.out HY.out)
              go_wp2_with fail
              go_quiet ((go_at_call 24; exact quietW HNM.out))
              go_wp2_with fail
              go_ret2
              exact ⟨by rw [HR.out]; rfl, Chg.of_drewN NoB _⟩
end Go.Proofs.YtfidiiifcmmffaaGreatDoor
