/- Labels: the program's and the reference's are one test. No condition. -/
import Derived.Test.YtfidiiifcmmffaaGreatDoorAsm16
set_option linter.unusedVariables false
set_option linter.unusedSimpArgs false
namespace Go.RR
open Go.RowKit
theorem dec_high (s : ByteArray) (i : Nat) (h : ¬ (s.get! i).toNat < 128) : 128 ≤ (Utf8.decode s i).1 ∧ (Utf8.decode s i).1 ≤ 1114111 := by
  have hv : ∀ c : Nat, Utf8.valid (c : Int) = true → c ≤ 1114111 := by
    intro c hc
    unfold Utf8.valid at hc
    simp only [Bool.or_eq_true, Bool.and_eq_true, decide_eq_true_eq] at hc
    omega
  have e : Utf8.runeError = 65533 := rfl
  unfold Utf8.decode
  simp only [Nat.add_zero, h, if_false, ge_iff_le]
  split
  · split
    · omega
    · omega
  · split
    · split
      · rename_i h3
        simp only [Bool.and_eq_true, decide_eq_true_eq] at h3
        have := hv _ h3.2
        omega
      · omega
    · split
      · split
        · rename_i h3
          simp only [Bool.and_eq_true, decide_eq_true_eq] at h3
          have := hv _ h3.2
          omega
        · omega
      · omega
theorem it_high {P : Program} {w : World} {b : Nat} {s : ByteArray} {pos : Nat} (ty : TypeId) (hi : It w b s pos) (h : pos < s.size) (ha : ¬ (s[pos]'h).toNat < 128) :
    ∃ (r n : Nat), 128 ≤ r ∧ r ≤ 1114111 ∧ (Instr.next (.pointer (some ⟨b, 0, none⟩)) true ty).run P w = .ok (.tuple #[.bool true, .int .i64 pos, .int .i32 r]) (setIt w b s (pos + n)) := by
  have hg : s.get! pos = s[pos]'h := by
    rw [ByteArray.get!, ByteArray.getElem_eq_getElem_data]
    exact getElem!_pos s.data pos h
  obtain ⟨h1, h2⟩ := dec_high s pos (by rw [hg]; exact ha)
  refine ⟨(Utf8.decode s pos).1, (Utf8.decode s pos).2, h1, h2, ?_⟩
  obtain ⟨d, hd⟩ : ∃ d, Utf8.decode s pos = d := ⟨_, rfl⟩
  rw [hd]
  obtain ⟨r, n⟩ := d
  unfold It at hi
  simp only [Instr.next, getObj, setObj, Sem.run_bind, Sem.run, hi, Result.andThen, h, if_true, hd]
  simp [goInt, Sem.run, hi, setIt]
end Go.RR
namespace Go.Proofs.YtfidiiifcmmffaaGreatDoor
open Go.RowKit Go.RR
/-- May this byte stand at this place of a label? -/
def chOk (k : Nat) (c : UInt8) : Bool := (decide (97 ≤ c.toNat) && decide (c.toNat ≤ 122)) || (decide (k ≠ 0) && (decide (48 ≤ c.toNat) && decide (c.toNat ≤ 57)))
def chAll : Nat → Bs → Bool
  | _, [] => true
  | k, c :: r => chOk k c && chAll (k + 1) r
def labB (s : Bs) : Bool := chAll 0 s && (decide (1 ≤ s.length) && decide (s.length ≤ 16))
theorem chAll_get : ∀ (s : Bs) (k0 : Nat), chAll k0 s = true ↔ ∀ k c, s[k]? = some c → chOk (k0 + k) c = true
  | [], k0 => Iff.intro (fun _ k c h => (by cases h)) (fun _ => rfl)
  | d :: r, k0 => by
    have ih := chAll_get r (k0 + 1)
    unfold chAll
    rw [Bool.and_eq_true, ih]
    constructor
    · rintro ⟨h1, h2⟩ k c hc
      cases k with
      | zero => cases hc; exact h1
      | succ k => have := h2 k c hc; rw [show k0 + (k + 1) = k0 + 1 + k by omega]; exact this
    · intro h
      exact ⟨h 0 d rfl, fun k c hc => by have := h (k + 1) c hc; rw [show k0 + (k + 1) = k0 + 1 + k by omega] at this; exact this⟩
theorem lab_no {s : Bs} {k : Nat} {c : UInt8} (h : s[k]? = some c) (hc : chOk k c = false) : labB s = false := by
  unfold labB
  have : chAll 0 s = false := by
    cases he : chAll 0 s with
    | false => rfl
    | true => have := (chAll_get s 0).1 he k c h; rw [Nat.zero_add, hc] at this; cases this
  rw [this]
  rfl
theorem lab_all {s : Bs} (h : ∀ k c, s[k]? = some c → chOk k c = true) : labB s = (decide (1 ≤ s.length) && decide (s.length ≤ 16)) := by
  unfold labB
  rw [(chAll_get s 0).2 fun k c hc => by rw [Nat.zero_add]; exact h k c hc]
  rfl
theorem chOk_b (k : Nat) (c : UInt8) : chOk k c = ((!decide ((c.toNat : Int) < 97) && !decide (122 < (c.toNat : Int))) || (!((k : Int) == 0) && (!decide ((c.toNat : Int) < 48) && !decide (57 < (c.toNat : Int))))) := by
  unfold chOk
  have e : ((k : Int) == 0) = !decide (k ≠ 0) := by
    rw [Bool.eq_iff_iff]; simp
  rw [e, Bool.eq_iff_iff]
  simp
  omega
theorem lab_len {s : Bs} (h : labB s = true) : 1 ≤ s.length ∧ s.length ≤ 16 := by
  unfold labB at h
  simp only [Bool.and_eq_true, decide_eq_true_eq] at h
  exact h.2
set_option maxHeartbeats 4000000 in
set_option maxRecDepth 100000 in
theorem label_any (s : Bs) (w : World) (hl : s.length ≤ 100000) : Calls Tryz.prog 61 #[.string ⟨s.toArray⟩] w (RetW (.bool (labB s)) fun w' => Chg NoB w w') := by
  have HI0 := Lib.hid (It.new w ⟨s.toArray⟩ 0)
  have HC0 : Hid (Chg NoB w (w.iter ⟨s.toArray⟩ 0)) := Lib.hid ((Chg.refl NoB w).alloc _)
  go_enter Tryz.func61, Tryz.ntmps61
  go_wp2_with fail
  go_loopg [3] s.length (fun g _ wr => ∃ (k : Nat), k + g = s.length ∧ Chg NoB w wr ∧ It wr w.heap.size ⟨s.toArray⟩ k ∧ ∀ j c, j < k → s[j]? = some c → chOk j c = true)
  case atStart => exact ⟨0, Nat.zero_add _, HC0.out, HI0.out, fun j c h => absurd h (by omega)⟩
  case round =>
    obtain ⟨k, hk, hC, hI, hall⟩ := hrel
    rename World => wr
    have HK := Lib.hid hk
    have HCk := Lib.hid hC
    have HIk := Lib.hid hI
    have HA := Lib.hid hall
    have hkl : k ≤ s.length := by omega
    clear hk hC hI hall
    by_cases hlt : k < s.length
    · obtain ⟨c, hc⟩ : ∃ c, s[k]? = some c := ⟨s[k], by simp [hlt]⟩
      have hsz : k < (⟨s.toArray⟩ : ByteArray).size := hlt
      have hv : (⟨s.toArray⟩ : ByteArray)[k]'hsz = c := by
        have h1 := ba_at' ⟨s.toArray⟩ k hsz
        rw [show (⟨s.toArray⟩ : ByteArray).data.toList = s from rfl, hc] at h1
        exact (Option.some.inj h1).symm
      have HN : Hid (chOk k c = false → labB s = false) := Lib.hid fun h => lab_no hc h
      have HY : Hid (chOk k c = true → ∀ j c, j < k + 1 → s[j]? = some c → chOk j c = true) := Lib.hid fun h j d hj hd => by
        rcases Nat.lt_or_ge j k with h1 | h1
        · exact HA.out j d h1 hd
        · obtain rfl : j = k := by omega
          rw [hc] at hd; cases hd; exact h
      have k0 : (0 : Int) ≤ k := by omega
      by_cases hca : c.toNat < 128
      · have hnx : ∀ ty, (Instr.next (.pointer (some ⟨w.heap.size, 0, none⟩)) true ty).run Tryz.prog wr = .ok (.tuple #[.bool true, .int .i64 k, .int .i32 c.toNat]) (setIt wr w.heap.size ⟨s.toArray⟩ (k + 1)) := fun ty => by
          have := it_next (P := Tryz.prog) ty HIk.out hsz (by rw [hv]; exact hca)
          rw [hv] at this
          exact this
        have HCn := Lib.hid (HCk.out.setIt (b := w.heap.size) (.inr (Nat.le_refl _)) ⟨s.toArray⟩ (k + 1))
        have HIn := Lib.hid (HIk.out.set (k + 1))
        have hO := chOk_b k c
        clear hc hv
        generalize c.toNat = n at *
        obtain ⟨b1, q1⟩ : ∃ b, decide ((n : Int) < 97) = b := ⟨_, rfl⟩
        obtain ⟨b2, q2⟩ : ∃ b, decide (122 < (n : Int)) = b := ⟨_, rfl⟩
        obtain ⟨b3, q3⟩ : ∃ b, ((k : Int) == 0) = b := ⟨_, rfl⟩
        obtain ⟨b4, q4⟩ : ∃ b, decide ((n : Int) < 48) = b := ⟨_, rfl⟩
        obtain ⟨b5, q5⟩ : ∃ b, decide (57 < (n : Int)) = b := ⟨_, rfl⟩
        rw [q1, q2, q3, q4, q5] at hO
        have HO := Lib.hid hO
        clear hO
        cases b1 <;> cases b2 <;> cases b3 <;> cases b4 <;> cases b5
        all_goals
          go_wp2_with fail
          first
          | (go_ret; exact ⟨by rw [HN.out (by rw [HO.out]; rfl)]; rfl, HCn.out⟩)
          | (go_roundg (s.length - (k + 1))
             case measure => have := HK.out; omega
             case rel => exact ⟨k + 1, by have := HK.out; omega, HCn.out, HIn.out, HY.out (by rw [HO.out]; rfl)⟩)
      · obtain ⟨r, m, hr1, hr2, hnx⟩ := it_high (P := Tryz.prog) 0 HIk.out hsz (by rw [hv]; exact hca)
        have HO : Hid (chOk k c = false) := Lib.hid (by unfold chOk; simp; omega)
        have HCn := Lib.hid (HCk.out.setIt (b := w.heap.size) (.inr (Nat.le_refl _)) ⟨s.toArray⟩ (k + m))
        have q1 : decide ((r : Int) < 97) = false := decide_eq_false (by omega)
        have q2 : decide (122 < (r : Int)) = true := decide_eq_true (by omega)
        have q4 : decide ((r : Int) < 48) = false := decide_eq_false (by omega)
        have q5 : decide (57 < (r : Int)) = true := decide_eq_true (by omega)
        clear hc hv hca hr1 hr2
        cases q3 : ((k : Int) == 0)
        all_goals
          go_wp2_with fail
          go_ret
          exact ⟨by rw [HN.out HO.out]; rfl, HCn.out⟩
    · obtain rfl : s.length = k := by omega
      have hls := it_last (P := Tryz.prog) 0 HIk.out (by show ¬ s.length < s.toArray.size; simp)
      have HL := Lib.hid (lab_all fun k c h => HA.out k c (List.getElem?_eq_some_iff.1 h).1 h)
      obtain ⟨b1, q1⟩ : ∃ b, decide ((1 : Int) ≤ s.length) = b := ⟨_, rfl⟩
      obtain ⟨b2, q2⟩ : ∃ b, decide ((s.length : Int) ≤ 16) = b := ⟨_, rfl⟩
      have HR : Hid (labB s = (b1 && b2)) := Lib.hid (by rw [HL.out, ← q1, ← q2]; congr 1 <;> (rw [Bool.eq_iff_iff]; simp; try omega))
      clear HL
      cases b1 <;> cases b2
      all_goals
        go_wp2_with fail
        go_ret
        exact ⟨by rw [HR.out]; rfl, HCk.out⟩
set_option maxHeartbeats 4000000 in
set_option maxRecDepth 100000 in
theorem rlabel_any (s : Bs) (w : World) (hl : s.length ≤ 100000) : Calls Tryz.prog 40 #[.string ⟨s.toArray⟩] w (RetW (.bool (labB s)) fun w' => w' = w) := by
  go_enter Tryz.func40, Tryz.ntmps40
  go_wp2_with fail
  go_loopg [3] s.length (fun g ix wr => ∃ (k : Nat), k + g = s.length ∧ ix = .int .i64 k ∧ wr = w ∧ ∀ j c, j < k → s[j]? = some c → chOk j c = true)
  case atStart => exact ⟨0, Nat.zero_add _, rfl, rfl, fun j c h => absurd h (by omega)⟩
  case round =>
    obtain ⟨k, hk, rfl, rfl, hall⟩ := hrel
    have HK := Lib.hid hk
    have HA := Lib.hid hall
    have hkl : k ≤ s.length := by omega
    clear hk hall
    by_cases hlt : k < s.length
    · obtain ⟨c, hc⟩ : ∃ c, s[k]? = some c := ⟨s[k], by simp [hlt]⟩
      have hsz : k < (⟨s.toArray⟩ : ByteArray).size := hlt
      have hv : (⟨s.toArray⟩ : ByteArray)[k]'hsz = c := by
        have h1 := ba_at' ⟨s.toArray⟩ k hsz
        rw [show (⟨s.toArray⟩ : ByteArray).data.toList = s from rfl, hc] at h1
        exact (Option.some.inj h1).symm
      have HN : Hid (chOk k c = false → labB s = false) := Lib.hid fun h => lab_no hc h
      have HY : Hid (chOk k c = true → ∀ j c, j < k + 1 → s[j]? = some c → chOk j c = true) := Lib.hid fun h j d hj hd => by
        rcases Nat.lt_or_ge j k with h1 | h1
        · exact HA.out j d h1 hd
        · obtain rfl : j = k := by omega
          rw [hc] at hd; cases hd; exact h
      have k0 : (0 : Int) ≤ k := by omega
      have hO := chOk_b k c
      obtain ⟨b1, q1⟩ : ∃ b, decide ((c.toNat : Int) < 97) = b := ⟨_, rfl⟩
      obtain ⟨b2, q2⟩ : ∃ b, decide (122 < (c.toNat : Int)) = b := ⟨_, rfl⟩
      obtain ⟨b3, q3⟩ : ∃ b, ((k : Int) == 0) = b := ⟨_, rfl⟩
      obtain ⟨b4, q4⟩ : ∃ b, decide ((c.toNat : Int) < 48) = b := ⟨_, rfl⟩
      obtain ⟨b5, q5⟩ : ∃ b, decide (57 < (c.toNat : Int)) = b := ⟨_, rfl⟩
      rw [q1, q2, q3, q4, q5] at hO
      have HO := Lib.hid hO
      clear hO hc
      cases b1 <;> cases b2 <;> cases b3 <;> cases b4 <;> cases b5
      all_goals
        go_wp2_with fail
        first
        | (go_ret; exact ⟨by rw [HN.out (by rw [HO.out]; rfl)]; rfl, rfl⟩)
        | (go_roundg (s.length - (k + 1))
           case measure => have := HK.out; omega
           case rel => exact ⟨k + 1, by have := HK.out; omega, by go_num, rfl, HY.out (by rw [HO.out]; rfl)⟩)
    · obtain rfl : s.length = k := by omega
      have HL := Lib.hid (lab_all fun k c h => HA.out k c (List.getElem?_eq_some_iff.1 h).1 h)
      cases s with
      | nil =>
        go_wp2_with fail
        go_ret
        exact ⟨by rw [HL.out]; rfl, rfl⟩
      | cons c r =>
        have e1 := bl_list (c :: r)
        obtain ⟨b2, q2⟩ : ∃ b, decide (((c :: r).length : Int) ≤ 16) = b := ⟨_, rfl⟩
        have HR : Hid (labB (c :: r) = b2) := Lib.hid (by rw [HL.out, ← q2, decide_eq_true (by simp : 1 ≤ (c :: r).length), Bool.true_and, Bool.eq_iff_iff]; simp; try omega)
        clear HL
        simp only [List.length_cons, Int.natCast_add, Int.cast_ofNat_Int] at q2
        cases b2
        all_goals
          go_wp2_with fail
          go_ret
          exact ⟨by rw [HR.out]; rfl, rfl⟩
end Go.Proofs.YtfidiiifcmmffaaGreatDoor
