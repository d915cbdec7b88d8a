/- The reference's split: a line that names a label. No condition. -/
import Derived.Test.YtfidiiifcmmffaaGreatDoorAsm32
import Derived.Test.YtfidiiifcmmffaaGreatDoorBranch
set_option linter.unusedVariables false
set_option linter.unusedSimpArgs false
namespace Go.Proofs.YtfidiiifcmmffaaGreatDoor
open Go.RowKit Go.RR
def nmV (o : Option (In × Bs)) : Value := match o with
  | some (x, nm) => .tuple #[.agg #[.int .i64 x.op, .int .i64 x.rd, .int .i64 x.rs, .int .i64 x.rt, .int .i64 x.im], .string ⟨nm.toArray⟩, .bool true]
  | none => .tuple #[.agg #[.int .i64 0, .int .i64 0, .int .i64 0, .int .i64 0, .int .i64 0], .string ⟨#[]⟩, .bool false]
theorem no_sp0 : lineP [32, 48] = none := by kernel_rfl
theorem named_at {s : Bs} {k : Nat} (h : s[k]? = some 32) (hno : (32 : UInt8) ∉ s.drop (k + 1)) : namedP s = namedQ (s.take k) (s.drop (k + 1)) := by
  obtain ⟨h1, h2⟩ := List.getElem?_eq_some_iff.1 h
  have e : s = s.take k ++ 32 :: s.drop (k + 1) := by
    have h3 : s.drop k = 32 :: s.drop (k + 1) := by rw [← h2, List.drop_eq_getElem_cons h1]
    rw [← h3, List.take_append_drop]
  have : lastSp s = some (s.take k, s.drop (k + 1)) := by
    conv => lhs; rw [e]
    exact lastSp_at hno
  unfold namedP
  rw [this]
theorem named_no0 {s : Bs} (hno : (32 : UInt8) ∉ s.drop 1) : namedP s = none := by
  cases s with
  | nil => rfl
  | cons c r =>
    by_cases hc : c = 32
    · subst hc
      rw [named_at (k := 0) rfl hno]
      unfold namedQ
      show (if labB _ = true then namedR _ (lineP [32, 48]) else none) = none
      rw [no_sp0]
      split <;> rfl
    · have : lastSp (c :: r) = none := lastSp_none.2 fun h => by
        rcases List.mem_cons.1 h with h | h
        · exact hc h.symm
        · exact hno h
      unfold namedP
      rw [this]
theorem sp_more {s : Bs} {k : Nat} {c : UInt8} (hc : s[k + 1]? = some c) (hn : c ≠ 32) (h : (32 : UInt8) ∉ s.drop (k + 1 + 1)) : (32 : UInt8) ∉ s.drop (k + 1) := by
  obtain ⟨h1, h2⟩ := List.getElem?_eq_some_iff.1 hc
  rw [List.drop_eq_getElem_cons h1, h2]
  intro hm
  rcases List.mem_cons.1 hm with hm | hm
  · exact hn hm.symm
  · exact h hm
set_option maxHeartbeats 8000000 in
set_option maxRecDepth 100000 in
theorem rsplit_any (s : Bs) (w : World) (hne : s ≠ []) (hs : s.length ≤ 90000) : Calls Tryz.prog 42 #[.string ⟨s.toArray⟩] w (RetW (nmV (namedP s)) fun w' => Chg NoB w w') := by
  have HC0 := Lib.hid ((Chg.refl NoB w).alloc (.cells (ic ⟨0, 0, 0, 0, 0⟩) 24))
  have HZ0 := Lib.hid (Blk.new w (ic ⟨0, 0, 0, 0, 0⟩) 24)
  obtain ⟨m, hm⟩ : ∃ m, s.length = m + 1 := ⟨s.length - 1, by have := List.length_pos_iff.2 hne; omega⟩
  have hm1 : (s.length : Int) - 1 = m := by omega
  have hms : m < s.length := by omega
  have hd0 : (32 : UInt8) ∉ s.drop (m + 1) := by rw [List.drop_eq_nil_of_le (by omega)]; simp
  have HD0 := Lib.hid hd0
  have HNE := Lib.hid hne
  clear hd0 hm hne
  go_enter Tryz.func42, Tryz.ntmps42
  go_wp2_with fail
  go_loopg [5] m (fun g kv wr => kv = .int .i64 g ∧ g < s.length ∧ (32 : UInt8) ∉ s.drop (g + 1) ∧ wr = w.alloc (.cells (ic ⟨0, 0, 0, 0, 0⟩) 24))
  case atStart => exact ⟨by go_num, hms, HD0.out, rfl⟩
  case round =>
    obtain ⟨rfl, hg, hno, hwr⟩ := hrel
    rename World => wr
    have HNO := Lib.hid hno
    have HC : Hid (Chg NoB w wr) := Lib.hid (by rw [hwr]; exact HC0.out)
    have HZ : Hid (Blk wr w.heap.size (ic ⟨0, 0, 0, 0, 0⟩) 24) := Lib.hid (by rw [hwr]; exact HZ0.out)
    have HWR := Lib.hid hwr
    clear hno hwr
    rename Nat => g
    cases g with
    | zero =>
      have HN : Hid (namedP s = none) := Lib.hid (named_no0 HNO.out)
      have x0 := HZ.out.cell' (i := 0) (v := .int .i64 0) rfl
      have x1 := HZ.out.cell' (i := 1) (v := .int .i64 0) rfl
      have x2 := HZ.out.cell' (i := 2) (v := .int .i64 0) rfl
      have x3 := HZ.out.cell' (i := 3) (v := .int .i64 0) rfl
      have x4 := HZ.out.cell' (i := 4) (v := .int .i64 0) rfl
      have f0 := HZ.out.frozen 0
      have f1 := HZ.out.frozen 1
      have f2 := HZ.out.frozen 2
      have f3 := HZ.out.frozen 3
      have f4 := HZ.out.frozen 4
      have hbr := HZ.out.lt
      go_wp2_with fail
      exact bodyPost_ret (v := .tuple #[.agg #[.int .i64 0, .int .i64 0, .int .i64 0, .int .i64 0, .int .i64 0], .string ⟨#[]⟩, .bool false]) (by simp [results, Tryz.results42, go_sem, x0, x1, x2, x3, x4, hbr]) rfl
        ⟨by rw [HN.out]; rfl, ((((HC.out.setCell (.inr (Nat.le_refl _)) _).setCell (.inr (Nat.le_refl _)) _).setCell (.inr (Nat.le_refl _)) _).setCell (.inr (Nat.le_refl _)) _).setCell (.inr (Nat.le_refl _)) _⟩
    | succ k =>
      obtain ⟨c, hc⟩ : ∃ c, s[k + 1]? = some c := ⟨s[k + 1], by simp [hg]⟩
      obtain ⟨hsz, hv⟩ := byte_at hc
      have t1 : ((c.toNat : Int) == 32) = decide (c = 32) := byteD c 32
      have k0 : (0 : Int) < ((k + 1 : Nat) : Int) := by omega
      cases hb : decide (c = 32)
      · rw [hb] at t1
        have HM := Lib.hid (sp_more hc (of_decide_eq_false hb) HNO.out)
        clear hc hb
        go_wp2_with fail
        go_roundg k
        case measure => omega
        case rel => exact ⟨by go_num, by omega, HM.out, HWR.out⟩
      · rw [hb] at t1
        have HQ : Hid (namedP s = namedQ (s.take (k + 1)) (s.drop (k + 1 + 1))) := Lib.hid (named_at (by rw [hc, of_decide_eq_true hb]) HNO.out)
        obtain ⟨a, ha⟩ : ∃ a, s.take (k + 1) = a := ⟨_, rfl⟩
        obtain ⟨b, hbb⟩ : ∃ b, s.drop (k + 1 + 1) = b := ⟨_, rfl⟩
        have x1 := ex_drop s (k + 1 + 1)
        rw [hbb] at x1
        have x2 : (ByteArray.mk s.toArray).extract 0 (k + 1 + 1) = ⟨(a ++ [32]).toArray⟩ := by
          rw [ex_take, List.take_add_one, hc, of_decide_eq_true hb, ha]; rfl
        have x3 : (⟨(a ++ [32]).toArray⟩ : ByteArray) ++ ⟨#[48]⟩ = ⟨(a ++ [32, 48]).toArray⟩ := by
          rw [show (⟨#[48]⟩ : ByteArray) = ⟨([48] : Bs).toArray⟩ from rfl, bs_append]; simp
        have hal : a.length = k + 1 := by rw [← ha, List.length_take]; omega
        have HLA : Hid ((a ++ [32, 48] : Bs).length ≤ 99999) := Lib.hid (by simp; omega)
        have HLB : Hid (b.length ≤ 90000) := Lib.hid (by rw [← hbb, List.length_drop]; omega)
        have k2 : (k : Int) + 1 + 1 ≤ s.length := by omega
        have k3 : k + 1 + 1 ≤ s.length := by omega
        have l1 : ¬ 9223372036854775807 < (a ++ [32] : Bs).length + 1 := by simp; omega
        have l2 : (a ++ [32] : Bs).length = k + 1 + 1 := by simp; omega
        rw [ha, hbb] at HQ
        clear hc hb ha hbb
        go_wp2_with fail
        refine (rline_walk (a ++ [32, 48]) _ HLA.out).mono ?_
        rintro e w3 ⟨rfl, C3⟩
        have HC3 : Hid (Chg NoB w w3) := Lib.hid (HC.out.step C3)
        have HZ3 : Hid (Blk w3 w.heap.size (ic ⟨0, 0, 0, 0, 0⟩) 24) := Lib.hid (C3.blk0 HZ.out)
        clear C3 HC HZ HWR
        cases hlp : lineP (a ++ [32, 48]) with
        | none =>
          have HN : Hid (namedP s = none) := Lib.hid (by rw [HQ.out]; unfold namedQ; rw [hlp]; split <;> rfl)
          rw [lineV_none hlp]
          clear hlp HQ
          have HB4 := Lib.hid (Blk.new w3 (ic ⟨0, 0, 0, 0, 0⟩) 24)
          have y0 := HB4.out.cell' (i := 0) (v := .int .i64 0) rfl
          go_wp2_with fail
          refine (of_any 0 _).mono ?_
          rintro e w4 ⟨rfl, C4⟩
          have HC : Hid (Chg NoB w (w4.alloc (.cells #[.string (rowAt 0).1, .string (kd 0).s, .int .i64 (rowAt 0).2.2] 28))) := Lib.hid (((HC3.out.alloc _).step C4).alloc _)
          have HZ : Hid (Blk (w4.alloc (.cells #[.string (rowAt 0).1, .string (kd 0).s, .int .i64 (rowAt 0).2.2] 28)) w.heap.size (ic ⟨0, 0, 0, 0, 0⟩) 24) := Lib.hid ((C4.blk0 (HZ3.out.alloc _)).alloc _)
          clear C4
          have x0 := HZ.out.cell' (i := 0) (v := .int .i64 0) rfl
          have x1 := HZ.out.cell' (i := 1) (v := .int .i64 0) rfl
          have x2 := HZ.out.cell' (i := 2) (v := .int .i64 0) rfl
          have x3 := HZ.out.cell' (i := 3) (v := .int .i64 0) rfl
          have x4 := HZ.out.cell' (i := 4) (v := .int .i64 0) rfl
          have f0 := HZ.out.frozen 0
          have f1 := HZ.out.frozen 1
          have f2 := HZ.out.frozen 2
          have f3 := HZ.out.frozen 3
          have f4 := HZ.out.frozen 4
          have hbr := HZ.out.lt
          go_wp2_with fail
          exact bodyPost_ret (v := .tuple #[.agg #[.int .i64 0, .int .i64 0, .int .i64 0, .int .i64 0, .int .i64 0], .string ⟨#[]⟩, .bool false]) (by simp [results, Tryz.results42, go_sem, x0, x1, x2, x3, x4, hbr]) rfl
            ⟨by rw [HN.out]; rfl, ((((HC.out.setCell (.inr (Nat.le_refl _)) _).setCell (.inr (Nat.le_refl _)) _).setCell (.inr (Nat.le_refl _)) _).setCell (.inr (Nat.le_refl _)) _).setCell (.inr (Nat.le_refl _)) _⟩
        | some x =>
          have HQ3 : Hid (namedP s = if labB b = true then (if kd x.op = .B ∨ kd x.op = .J then some (x, b) else none) else none) := Lib.hid (by rw [HQ.out]; unfold namedQ; rw [hlp]; rfl)
          rw [lineV_some hlp]
          clear hlp HQ
          have HB4 := Lib.hid (Blk.new w3 (ic x) 24)
          have y0 := HB4.out.cell' (i := 0) (v := .int .i64 x.op) rfl
          go_wp2_with fail
          refine (of_any x.op _).mono ?_
          rintro e w4 ⟨rfl, C4⟩
          have hzz : w3.heap.size < w4.heap.size := by have := C4.size; simp at this; omega
          have HR5 := Lib.hid (Blk.new w4 #[.string (rowAt x.op).1, .string (kd x.op).s, .int .i64 (rowAt x.op).2.2] 28)
          have HB5 := Lib.hid ((C4.blk0 HB4.out).alloc (.cells #[.string (rowAt x.op).1, .string (kd x.op).s, .int .i64 (rowAt x.op).2.2] 28))
          have HC5 : Hid (Chg NoB w (w4.alloc (.cells #[.string (rowAt x.op).1, .string (kd x.op).s, .int .i64 (rowAt x.op).2.2] 28))) := Lib.hid (((HC3.out.alloc _).step C4).alloc _)
          have HZ5 : Hid (Blk (w4.alloc (.cells #[.string (rowAt x.op).1, .string (kd x.op).s, .int .i64 (rowAt x.op).2.2] 28)) w.heap.size (ic ⟨0, 0, 0, 0, 0⟩) 24) := Lib.hid ((C4.blk0 (HZ3.out.alloc _)).alloc _)
          have v1 := HR5.out.cell' (i := 1) (v := .string (kd x.op).s) rfl
          clear C4
          go_wp2_with fail
          refine (rlabel_any b _ (by have := HLB.out; omega)).mono ?_
          rintro e w6 ⟨rfl, hw6⟩
          subst hw6
          generalize hw5 : w4.alloc (.cells #[.string (rowAt x.op).1, .string (kd x.op).s, .int .i64 (rowAt x.op).2.2] 28) = w5 at *
          clear hw5
          obtain ⟨yl, hyl⟩ : ∃ y, labB b = y := ⟨_, rfl⟩
          rw [hyl] at HQ3 ⊢
          clear hyl
          have HC : Hid (Chg NoB w w5) := HC5
          have HZ : Hid (Blk w5 w.heap.size (ic ⟨0, 0, 0, 0, 0⟩) 24) := HZ5
          cases yl
          · have HN : Hid (namedP s = none) := Lib.hid (by rw [HQ3.out]; rfl)
            have x0 := HZ.out.cell' (i := 0) (v := .int .i64 0) rfl
            have x1 := HZ.out.cell' (i := 1) (v := .int .i64 0) rfl
            have x2 := HZ.out.cell' (i := 2) (v := .int .i64 0) rfl
            have x3 := HZ.out.cell' (i := 3) (v := .int .i64 0) rfl
            have x4 := HZ.out.cell' (i := 4) (v := .int .i64 0) rfl
            have f0 := HZ.out.frozen 0
            have f1 := HZ.out.frozen 1
            have f2 := HZ.out.frozen 2
            have f3 := HZ.out.frozen 3
            have f4 := HZ.out.frozen 4
            have hbr := HZ.out.lt
            go_wp2_with fail
            exact bodyPost_ret (v := .tuple #[.agg #[.int .i64 0, .int .i64 0, .int .i64 0, .int .i64 0, .int .i64 0], .string ⟨#[]⟩, .bool false]) (by simp [results, Tryz.results42, go_sem, x0, x1, x2, x3, x4, hbr]) rfl
              ⟨by rw [HN.out]; rfl, ((((HC.out.setCell (.inr (Nat.le_refl _)) _).setCell (.inr (Nat.le_refl _)) _).setCell (.inr (Nat.le_refl _)) _).setCell (.inr (Nat.le_refl _)) _).setCell (.inr (Nat.le_refl _)) _⟩
          · by_cases hk : kd x.op = .B ∨ kd x.op = .J
            · have HN : Hid (namedP s = some (x, b)) := Lib.hid (by rw [HQ3.out, if_pos rfl, if_pos hk])
              have z0 := HB5.out.cell' (i := 0) (v := .int .i64 x.op) rfl
              have z1 := HB5.out.cell' (i := 1) (v := .int .i64 x.rd) rfl
              have z2 := HB5.out.cell' (i := 2) (v := .int .i64 x.rs) rfl
              have z3 := HB5.out.cell' (i := 3) (v := .int .i64 x.rt) rfl
              have z4 := HB5.out.cell' (i := 4) (v := .int .i64 x.im) rfl
              have x0 := HZ.out.drew.cell' (i := 0) (v := .int .i64 0) rfl
              have x1' := HZ.out.drew.cell' (i := 1) (v := .int .i64 0) rfl
              have x2' := HZ.out.drew.cell' (i := 2) (v := .int .i64 0) rfl
              have x3' := HZ.out.drew.cell' (i := 3) (v := .int .i64 0) rfl
              have x4' := HZ.out.drew.cell' (i := 4) (v := .int .i64 0) rfl
              have f0 := HZ.out.drew.frozen 0
              have f1 := HZ.out.drew.frozen 1
              have f2 := HZ.out.drew.frozen 2
              have f3 := HZ.out.drew.frozen 3
              have f4 := HZ.out.drew.frozen 4
              have hbr : w.heap.size < w5.drew.heap.size := HZ.out.drew.lt
              have hne5 : w3.heap.size ≠ w.heap.size := by have := HZ3.out.lt; omega
              have HZ9 : Hid (Blk (((((w5.drew.setCell ⟨w.heap.size, 0, none⟩ (.int .i64 x.op)).setCell ⟨w.heap.size, 1, none⟩ (.int .i64 x.rd)).setCell ⟨w.heap.size, 2, none⟩ (.int .i64 x.rs)).setCell ⟨w.heap.size, 3, none⟩ (.int .i64 x.rt)).setCell ⟨w.heap.size, 4, none⟩ (.int .i64 x.im)) w.heap.size (ic x) 24) := Lib.hid (((((HZ.out.drew.set 0 _).set 1 _).set 2 _).set 3 _).set 4 _)
              have HB9 : Hid (Blk (((((w5.drew.setCell ⟨w.heap.size, 0, none⟩ (.int .i64 x.op)).setCell ⟨w.heap.size, 1, none⟩ (.int .i64 x.rd)).setCell ⟨w.heap.size, 2, none⟩ (.int .i64 x.rs)).setCell ⟨w.heap.size, 3, none⟩ (.int .i64 x.rt)).setCell ⟨w.heap.size, 4, none⟩ (.int .i64 x.im)) w3.heap.size (ic x) 24) := Lib.hid (((((HB5.out.drew.set_ne hne5 _).set_ne hne5 _).set_ne hne5 _).set_ne hne5 _).set_ne hne5 _)
              have HC9 : Hid (Chg NoB w (((((w5.drew.setCell ⟨w.heap.size, 0, none⟩ (.int .i64 x.op)).setCell ⟨w.heap.size, 1, none⟩ (.int .i64 x.rd)).setCell ⟨w.heap.size, 2, none⟩ (.int .i64 x.rs)).setCell ⟨w.heap.size, 3, none⟩ (.int .i64 x.rt)).setCell ⟨w.heap.size, 4, none⟩ (.int .i64 x.im))) := Lib.hid (((((HC.out.drew.setCell (.inr (Nat.le_refl _)) _).setCell (.inr (Nat.le_refl _)) _).setCell (.inr (Nat.le_refl _)) _).setCell (.inr (Nat.le_refl _)) _).setCell (.inr (Nat.le_refl _)) _)
              have HZS := Lib.hid (And.intro (HB9.out.cell' (i := 0) (v := .int .i64 x.op) rfl) (And.intro (HB9.out.cell' (i := 1) (v := .int .i64 x.rd) rfl) (And.intro (HB9.out.cell' (i := 2) (v := .int .i64 x.rs) rfl) (And.intro (HB9.out.cell' (i := 3) (v := .int .i64 x.rt) rfl) (HB9.out.cell' (i := 4) (v := .int .i64 x.im) rfl)))))
              have HZD := Lib.hid (And.intro (HB5.out.drew.cell' (i := 0) (v := .int .i64 x.op) rfl) (And.intro (HB5.out.drew.cell' (i := 1) (v := .int .i64 x.rd) rfl) (And.intro (HB5.out.drew.cell' (i := 2) (v := .int .i64 x.rs) rfl) (And.intro (HB5.out.drew.cell' (i := 3) (v := .int .i64 x.rt) rfl) (HB5.out.drew.cell' (i := 4) (v := .int .i64 x.im) rfl)))))
              have hb5 := HB5.out.lt
              rcases hk with hk | hk
              all_goals
                first | rw [show (kd x.op).s = ⟨#[66]⟩ by rw [hk]; rfl] at v1 | rw [show (kd x.op).s = ⟨#[74]⟩ by rw [hk]; rfl] at v1
                clear hk
                go_wp2_with fail
                have wr1 : IntKind.i64.wrap ((k : Int) + 1 + 1) = (k : Int) + 1 + 1 := IntWalk.i64_in _ (by omega)
                have s0 : (0 : Int) ≤ (k : Int) + 1 + 1 := by omega
                have s1 : ((k : Int) + 1 + 1).toNat = k + 1 + 1 := by omega
                refine wp_region_all 6 2 [0, 1, 2, 3] (fun w' => w'.cell? ⟨w3.heap.size, 0, none⟩ = some (.int .i64 x.op) ∧ w'.cell? ⟨w3.heap.size, 1, none⟩ = some (.int .i64 x.rd) ∧ w'.cell? ⟨w3.heap.size, 2, none⟩ = some (.int .i64 x.rs) ∧ w'.cell? ⟨w3.heap.size, 3, none⟩ = some (.int .i64 x.rt) ∧ w'.cell? ⟨w3.heap.size, 4, none⟩ = some (.int .i64 x.im)) (by kernel_rfl) (by kernel_rfl) (fun _ _ _ _ _ h => h) (⟨z0, z1, z2, z3, z4⟩) ?_
                simp only [pickOps_nil, pickOps_cons, Option.getD_some, List.getElem?_toArray, List.getElem?_cons_zero, List.getElem?_cons_succ, List.cons_append, List.nil_append, List.drop_succ_cons, List.drop_zero]
                repeat
                  refine wpTake_cons' rfl ?_
                  apply Exists.intro
                  refine ⟨fun wS hS => ?_, ?_⟩
                  · try dsimp only at hS
                    obtain ⟨z0, z1, z2, z3, z4⟩ := hS
                    go_simp
                    try rfl
                  simp only [Act.put, List.setIfInBounds_toArray, List.set_cons_zero, List.set_cons_succ]
                refine wpTake_nil ?_
                generalize w5.drew = w6 at *
                refine wpAll_cons [4, 5] (by kernel_rfl) ?_
                intro i' hi'
                simp only [List.mem_cons, List.not_mem_nil, or_false] at hi'
                rcases hi' with rfl | rfl
                ·
                  refine ⟨_, rfl, rfl, fun K hK => ?_⟩
                  go_simp
                  refine hK _ _ HZD.out ?_
                  clear hK K
                  try simp only [Act.put, List.setIfInBounds_toArray, List.set_cons_zero, List.set_cons_succ]
                  refine wpAll_cons [5] (by kernel_rfl) ?_
                  intro i' hi'
                  simp only [List.mem_cons, List.not_mem_nil, or_false] at hi'
                  subst hi'
                  refine ⟨_, rfl, rfl, fun K hK => ?_⟩
                  go_simp
                  refine hK _ _ HZS.out ?_
                  clear hK K
                  try simp only [Act.put, List.setIfInBounds_toArray, List.set_cons_zero, List.set_cons_succ]
                  refine wpAll_nil ?_
                  have y0 := HZ9.out.cell' (i := 0) (v := .int .i64 x.op) rfl
                  have y1 := HZ9.out.cell' (i := 1) (v := .int .i64 x.rd) rfl
                  have y2 := HZ9.out.cell' (i := 2) (v := .int .i64 x.rs) rfl
                  have y3 := HZ9.out.cell' (i := 3) (v := .int .i64 x.rt) rfl
                  have y4 := HZ9.out.cell' (i := 4) (v := .int .i64 x.im) rfl
                  have hbr9 := HZ9.out.lt
                  clear f0 f1 f2 f3 f4 hbr x0 x1' x2' x3' x4'
                  go_wp2_with fail
                  exact bodyPost_ret (v := .tuple #[.agg #[.int .i64 x.op, .int .i64 x.rd, .int .i64 x.rs, .int .i64 x.rt, .int .i64 x.im], .string ⟨b.toArray⟩, .bool true]) (by simp [results, Tryz.results42, go_sem, y0, y1, y2, y3, y4, hbr9]) rfl
                    ⟨by rw [HN.out]; rfl, HC9.out⟩
                ·
                  refine ⟨_, rfl, rfl, fun K hK => ?_⟩
                  go_simp
                  refine hK _ _ HZS.out ?_
                  clear hK K
                  try simp only [Act.put, List.setIfInBounds_toArray, List.set_cons_zero, List.set_cons_succ]
                  refine wpAll_cons [4] (by kernel_rfl) ?_
                  intro i' hi'
                  simp only [List.mem_cons, List.not_mem_nil, or_false] at hi'
                  subst hi'
                  refine ⟨_, rfl, rfl, fun K hK => ?_⟩
                  go_simp
                  refine hK _ _ HZS.out ?_
                  clear hK K
                  try simp only [Act.put, List.setIfInBounds_toArray, List.set_cons_zero, List.set_cons_succ]
                  refine wpAll_nil ?_
                  have y0 := HZ9.out.cell' (i := 0) (v := .int .i64 x.op) rfl
                  have y1 := HZ9.out.cell' (i := 1) (v := .int .i64 x.rd) rfl
                  have y2 := HZ9.out.cell' (i := 2) (v := .int .i64 x.rs) rfl
                  have y3 := HZ9.out.cell' (i := 3) (v := .int .i64 x.rt) rfl
                  have y4 := HZ9.out.cell' (i := 4) (v := .int .i64 x.im) rfl
                  have hbr9 := HZ9.out.lt
                  clear f0 f1 f2 f3 f4 hbr x0 x1' x2' x3' x4'
                  go_wp2_with fail
                  exact bodyPost_ret (v := .tuple #[.agg #[.int .i64 x.op, .int .i64 x.rd, .int .i64 x.rs, .int .i64 x.rt, .int .i64 x.im], .string ⟨b.toArray⟩, .bool true]) (by simp [results, Tryz.results42, go_sem, y0, y1, y2, y3, y4, hbr9]) rfl
                    ⟨by rw [HN.out]; rfl, HC9.out⟩
            · have HN : Hid (namedP s = none) := Lib.hid (by rw [HQ3.out, if_pos rfl, if_neg hk])
              have q1 : ((kd x.op).s.toList == [66]) = false := by
                have h1 : kd x.op ≠ .B := fun e => hk (.inl e)
                revert h1; cases kd x.op <;> intro h <;> first | exact absurd rfl h | decide +kernel
              have q2 : ((kd x.op).s.toList == [74]) = false := by
                have h1 : kd x.op ≠ .J := fun e => hk (.inr e)
                revert h1; cases kd x.op <;> intro h <;> first | exact absurd rfl h | decide +kernel
              clear hk
              have x0 := HZ.out.cell' (i := 0) (v := .int .i64 0) rfl
              have x1 := HZ.out.cell' (i := 1) (v := .int .i64 0) rfl
              have x2 := HZ.out.cell' (i := 2) (v := .int .i64 0) rfl
              have x3 := HZ.out.cell' (i := 3) (v := .int .i64 0) rfl
              have x4 := HZ.out.cell' (i := 4) (v := .int .i64 0) rfl
              have f0 := HZ.out.frozen 0
              have f1 := HZ.out.frozen 1
              have f2 := HZ.out.frozen 2
              have f3 := HZ.out.frozen 3
              have f4 := HZ.out.frozen 4
              have hbr := HZ.out.lt
              go_wp2_with fail
              exact bodyPost_ret (v := .tuple #[.agg #[.int .i64 0, .int .i64 0, .int .i64 0, .int .i64 0, .int .i64 0], .string ⟨#[]⟩, .bool false]) (by simp [results, Tryz.results42, go_sem, x0, x1, x2, x3, x4, hbr]) rfl
                ⟨by rw [HN.out]; rfl, ((((HC.out.setCell (.inr (Nat.le_refl _)) _).setCell (.inr (Nat.le_refl _)) _).setCell (.inr (Nat.le_refl _)) _).setCell (.inr (Nat.le_refl _)) _).setCell (.inr (Nat.le_refl _)) _⟩
end Go.Proofs.YtfidiiifcmmffaaGreatDoor
