/- The registers that pieces use, by the reference. No condition. -/
import Derived.Test.YtdkplhdinklflaaBuild11
set_option linter.unusedVariables false
set_option linter.unusedSimpArgs false
namespace Go.Proofs.Ytdkplhdinklflaa
open Go.RowKit Go.RR

theorem pow_step (k : Nat) : IntKind.u16.wrap (((2 ^ k % 65536 : Nat) : Int) * 2) = ((2 ^ (k + 1) % 65536 : Nat) : Int) := by
  rw [IntKind.wrap_u16, Nat.pow_succ]
  generalize 2 ^ k = x
  omega
theorem bitR_no {n : Int} (h : n ≤ 0 ∨ 15 < n) : bitR n = 0 := by unfold bitR; rw [if_neg]; rw [ownB_no (by omega)]; simp
theorem bitR_yes {n : Int} (h1 : 1 ≤ n) (h2 : n ≤ 15) : bitR n = 2 ^ n.toNat := by unfold bitR; rw [if_pos (ownB_yes h1 h2)]
set_option maxRecDepth 100000 in
theorem bit_any (n : Int) (w : World) : Calls Try.prog 85 #[.int .i64 n] w fun e w' => e = .returned (.int .u16 (bitR n : Nat)) ∧ w = w' := by
  go_enter Try.func85, Try.ntmps85
  go_wp2_with fail
  go_loopg [3, 4] 16 (fun g bv ix wr => ∃ k : Nat, k + g = 16 ∧ ix = .int .i64 k ∧ bv = .int .u16 (2 ^ k % 65536 : Nat) ∧ (k = 0 ∨ (k : Int) ≤ n) ∧ wr = w)
  case atStart => exact ⟨0, by omega, rfl, rfl, .inl rfl, rfl⟩
  case round =>
    obtain ⟨k, hk, rfl, rfl, hkn, rfl⟩ := hrel
    have HK := Lib.hid hk
    have hk16 : k ≤ 16 := by omega
    have hp := pow_step k
    obtain ⟨x, hx⟩ : ∃ x, 2 ^ k % 65536 = x := ⟨_, rfl⟩
    rw [hx] at hp ⊢
    have HP := Lib.hid hp
    have HX := Lib.hid hx
    clear hp
    have HKN := Lib.hid hkn
    clear hk hx hkn
    by_cases h1 : (k : Int) < n
    · have t1 : decide ((k : Int) < n) = true := by simp; omega
      by_cases h2 : k < 16
      · have t2 : decide ((k : Int) < 16) = true := by simp; omega
        have t2' : decide (k < 16) = true := by simp; omega
        have H1 := Lib.hid h1
        have H2 := Lib.hid h2
        clear h1 h2
        go_wp2_with fail
        go_roundg (16 - (k + 1))
        case measure => have := HK.out; have := H2.out; omega
        case rel => exact ⟨k + 1, by have := HK.out; have := H2.out; omega, by go_num, congrArg (Value.int .u16) HP.out, .inr (by have := H1.out; omega), rfl⟩
      · have t2 : decide ((k : Int) < 16) = false := by simp; omega
        have t2' : decide (k < 16) = false := by simp; omega
        have t3 : decide (n ≤ 0) = false := by simp; omega
        have t4 : decide (15 < n) = true := by simp; omega
        have hb := Lib.hid (bitR_no (n := n) (by omega))
        clear h1 h2
        go_wp2_with fail
        go_ret
        exact ⟨by rw [hb.out]; rfl, rfl⟩
    · have t1 : decide ((k : Int) < n) = false := by simp; omega
      by_cases h3 : n ≤ 0
      · have t3 : decide (n ≤ 0) = true := by simp; omega
        have hb := Lib.hid (bitR_no (n := n) (by omega))
        clear h1 h3
        go_wp2_with fail
        go_ret
        exact ⟨by rw [hb.out]; rfl, rfl⟩
      · have t3 : decide (n ≤ 0) = false := by simp; omega
        have hkn : n = k := by have := HKN.out; omega
        by_cases h4 : 15 < n
        · have t4 : decide (15 < n) = true := by simp; omega
          have hb := Lib.hid (bitR_no (n := n) (by omega))
          clear h1 h3 h4 hkn
          go_wp2_with fail
          go_ret
          exact ⟨by rw [hb.out]; rfl, rfl⟩
        · have t4 : decide (15 < n) = false := by simp; omega
          have hb := Lib.hid (show bitR n = x by
            rw [bitR_yes (by omega) (by omega), ← HX.out, hkn, Int.toNat_natCast]
            have : (2 : Nat) ^ k < 2 ^ 16 := Nat.pow_lt_pow_right (by omega) (by omega)
            exact (Nat.mod_eq_of_lt this).symm)
          clear h1 h3 h4 hkn
          go_wp2_with fail
          go_ret
          exact ⟨by rw [hb.out]; rfl, rfl⟩

def readsF (i : In) : Nat := (if (kd i.op).q then bitR i.rs else 0) ||| (if (kd i.op).t then bitR i.rt else 0)
def writesF (i : In) : Nat := if (kd i.op).d then bitR i.rd else 0
theorem readsF_lt (i : In) : readsF i < 65536 := by
  unfold readsF
  refine or_lt16 ?_ ?_
  · split
    · exact bitR_lt _
    · omega
  · split
    · exact bitR_lt _
    · omega
theorem writesF_lt (i : In) : writesF i < 65536 := by
  unfold writesF
  split
  · exact bitR_lt _
  · omega
theorem orL_regs (i : In) (a : Nat) : orL (regsL i) a = a ||| (readsF i ||| writesF i) := by
  unfold regsL readsF writesF
  cases (kd i.op).d <;> cases (kd i.op).q <;> cases (kd i.op).t <;> simp only [orL, List.foldl_cons, List.foldl_nil, List.nil_append, List.cons_append, List.append_nil, if_true, if_false, Nat.or_zero, Nat.zero_or, Bool.false_eq_true] <;> try ac_rfl

set_option maxHeartbeats 2000000 in
set_option maxRecDepth 100000 in
theorem reads_any (i : In) (w : World) : Calls Try.prog 48 #[.agg #[.int .i64 i.op, .int .i64 i.rd, .int .i64 i.rs, .int .i64 i.rt, .int .i64 i.im]] w (RetW (.int .u16 (readsF i : Nat)) fun w' => Chg NoB w w') := by
  have B0 := Lib.hid (Blk.new w #[.int .i64 i.op, .int .i64 i.rd, .int .i64 i.rs, .int .i64 i.rt, .int .i64 i.im] 32)
  have A0 := Lib.hid ((Chg.refl NoB w).alloc (.cells #[.int .i64 i.op, .int .i64 i.rd, .int .i64 i.rs, .int .i64 i.rt, .int .i64 i.im] 32))
  obtain ⟨k, hk⟩ : ∃ k, kd i.op = k := ⟨_, rfl⟩
  have HK := Lib.hid hk
  have kor := bits_or16 (bitR i.rs) (bitR i.rt) (bitR_lt _) (bitR_lt _)
  unfold readsF
  rw [hk]
  clear hk
  cases k
  all_goals
    simp only [Kd.q, Kd.t, if_true, if_false, Nat.or_zero, Nat.zero_or, Bool.false_eq_true]
    go_enter Try.func48, Try.ntmps48
    go_wp2_with fail
    refine (rkind_any i _).mono ?_
    rintro e w1 ⟨rfl, C1⟩
    rw [HK.out]
    simp only [Kd.s]
    have B1 := C1.blk0 B0.out
    have x2 := B1.cell' (i := 2) (v := .int .i64 i.rs) (by rfl)
    have x3 := B1.cell' (i := 3) (v := .int .i64 i.rt) (by rfl)
    have xl := B1.lt
    have HC := Lib.hid (A0.out.step C1)
    clear C1 B1
    first
    | (go_wp2_with fail
       go_ret
       exact ⟨rfl, HC.out⟩)
    | (go_wp2_with fail
       refine (bit_any _ _).mono ?_
       rintro e w2 ⟨rfl, rfl⟩
       go_wp2_with fail
       go_ret
       exact ⟨rfl, HC.out⟩)
    | (go_wp2_with fail
       go_quiet ((go_at_call 85; exact quiet0 (bit_any _ _)))
       go_wp2_with fail
       go_ret
       exact ⟨rfl, HC.out.drewN _⟩)

set_option maxHeartbeats 2000000 in
set_option maxRecDepth 100000 in
theorem writes_any (i : In) (w : World) : Calls Try.prog 50 #[.agg #[.int .i64 i.op, .int .i64 i.rd, .int .i64 i.rs, .int .i64 i.rt, .int .i64 i.im]] w (RetW (.int .u16 (writesF i : Nat)) fun w' => Chg NoB w w') := by
  have B0 := Lib.hid (Blk.new w #[.int .i64 i.op, .int .i64 i.rd, .int .i64 i.rs, .int .i64 i.rt, .int .i64 i.im] 32)
  have A0 := Lib.hid ((Chg.refl NoB w).alloc (.cells #[.int .i64 i.op, .int .i64 i.rd, .int .i64 i.rs, .int .i64 i.rt, .int .i64 i.im] 32))
  obtain ⟨k, hk⟩ : ∃ k, kd i.op = k := ⟨_, rfl⟩
  have HK := Lib.hid hk
  unfold writesF
  rw [hk]
  clear hk
  cases k
  all_goals
    simp only [Kd.d, if_true, if_false, Bool.false_eq_true]
    go_enter Try.func50, Try.ntmps50
    go_wp2_with fail
    refine (rkind_any i _).mono ?_
    rintro e w1 ⟨rfl, C1⟩
    rw [HK.out]
    simp only [Kd.s]
    have B1 := C1.blk0 B0.out
    have x1 := B1.cell' (i := 1) (v := .int .i64 i.rd) (by rfl)
    have xl := B1.lt
    have HC := Lib.hid (A0.out.step C1)
    clear C1 B1
    first
    | (go_wp2_with fail
       go_ret
       exact ⟨rfl, HC.out⟩)
    | (go_wp2_with fail
       refine (bit_any _ _).mono ?_
       rintro e w2 ⟨rfl, rfl⟩
       go_wp2_with fail
       go_ret
       exact ⟨rfl, HC.out⟩)

set_option maxHeartbeats 2000000 in
set_option maxRecDepth 100000 in
theorem ruses39_any (S : Nat → Prop) (v : Value) (l : List In) (w : World) (hs : Sl w S 5 v l.length (icells l)) (hl : l.length ≤ 100000) : Calls Try.prog 26 #[v] w (RetW (.int .u16 (usesF l : Nat)) fun w' => Chg NoB w w') := by
  obtain ⟨p, cap, rfl, hI⟩ := InsAt.of hs hl
  have HI := Lib.hid hI
  clear hs hI
  go_enter Try.func26, Try.ntmps26
  go_wp2_with fail
  go_loopg [3, 8] l.length (fun g ov ix wr => ∃ n : Nat, n + g = l.length ∧ ix = .int .i64 n ∧ ov = .int .u16 (orL ((l.take n).flatMap regsL) 0 : Nat) ∧ Chg NoB w wr)
  case atStart => exact ⟨0, by omega, rfl, rfl, Chg.refl _ _⟩
  case round =>
    obtain ⟨n, hn, rfl, rfl, hC⟩ := hrel
    have HN := Lib.hid hn
    have hnl : n ≤ l.length := by omega
    clear hn
    by_cases hlt : n < l.length
    · obtain ⟨i, hi⟩ : ∃ i, l[n]? = some i := ⟨l[n], by simp [hlt]⟩
      obtain ⟨g, of, rfl, hg, x0, x1, x2, x3, x4⟩ := (HI.out.chg0 hC).at hi
      have hcap := HI.out.cap
      have n0 : (0 : Int) ≤ n := by omega
      have hnx : orL ((l.take (n + 1)).flatMap regsL) 0 = orL ((l.take n).flatMap regsL) 0 ||| (readsF i ||| writesF i) := by
        rw [List.take_add_one, hi, List.flatMap_append, orL_app]
        simp [orL_regs]
      have HX := Lib.hid hnx
      have hlt2 := orL_lt ((l.take n).flatMap regsL) 0 (by omega)
      have HC := Lib.hid hC
      generalize hA : orL ((l.take n).flatMap regsL) 0 = a at *
      have HA := Lib.hid hA
      have kor1 := bits_or16 (readsF i) (writesF i) (readsF_lt i) (writesF_lt i)
      have kor2 := bits_or16 a (readsF i ||| writesF i) hlt2 (or_lt16 (readsF_lt i) (writesF_lt i))
      clear hi hC hnx hA
      have A0 := Lib.hid ((Chg.refl NoB wr).alloc (.cells #[.int .i64 i.op, .int .i64 i.rd, .int .i64 i.rs, .int .i64 i.rt, .int .i64 i.im] 32))
      have B0 := Lib.hid (Blk.new wr #[.int .i64 i.op, .int .i64 i.rd, .int .i64 i.rs, .int .i64 i.rt, .int .i64 i.im] 32)
      have hS : ∀ w', Chg NoB (wr.alloc (.cells #[.int .i64 i.op, .int .i64 i.rd, .int .i64 i.rs, .int .i64 i.rt, .int .i64 i.im] 32)) w' → w'.cell? ⟨wr.heap.size, 0, none⟩ = some (.int .i64 i.op) ∧ w'.cell? ⟨wr.heap.size, 1, none⟩ = some (.int .i64 i.rd) ∧ w'.cell? ⟨wr.heap.size, 2, none⟩ = some (.int .i64 i.rs) ∧ w'.cell? ⟨wr.heap.size, 3, none⟩ = some (.int .i64 i.rt) ∧ w'.cell? ⟨wr.heap.size, 4, none⟩ = some (.int .i64 i.im) := fun w' c => by
        have B := c.blk0 B0.out
        exact ⟨B.cell' (i := 0) rfl, B.cell' (i := 1) rfl, B.cell' (i := 2) rfl, B.cell' (i := 3) rfl, B.cell' (i := 4) rfl⟩
      have HS := Lib.hid hS
      clear hS
      go_wp2_with fail
      clear x0 x1 x2 x3 x4
      refine wp_region_take 7 [0, 1, 3] [2, 4, 5, 6] (fun w' => w'.cell? ⟨wr.heap.size, 0, none⟩ = some (.int .i64 i.op) ∧ w'.cell? ⟨wr.heap.size, 1, none⟩ = some (.int .i64 i.rd) ∧ w'.cell? ⟨wr.heap.size, 2, none⟩ = some (.int .i64 i.rs) ∧ w'.cell? ⟨wr.heap.size, 3, none⟩ = some (.int .i64 i.rt) ∧ w'.cell? ⟨wr.heap.size, 4, none⟩ = some (.int .i64 i.im)) (by kernel_rfl) (by kernel_rfl) (fun _ _ _ _ _ h => h) (HS.out _ ((Chg.refl NoB _).drew)) ?_
      simp only [pickOps_nil, pickOps_cons, Option.getD_some, List.getElem?_toArray, List.getElem?_cons_zero, List.getElem?_cons_succ, List.cons_append, List.nil_append, List.drop_succ_cons, List.drop_zero]
      repeat
        refine wpTake_cons' rfl ?_
        apply Exists.intro
        refine ⟨fun wS hS => ?_, ?_⟩
        · try dsimp only at hS
          obtain ⟨x0, x1, x2, x3, x4⟩ := hS
          go_simp
          try rfl
        simp only [Act.put, List.setIfInBounds_toArray, List.set_cons_zero, List.set_cons_succ]
      refine wpTake_nil ?_
      refine wpForce_cons rfl (fun K hK => ?_)
      go_simp
      refine (reads_any i _).mono ?_
      rintro e w2 ⟨rfl, C2'⟩
      have C2 := Lib.hid (((Chg.refl NoB _).drew).step C2')
      refine hK _ _ (HS.out _ C2.out) ?_
      clear hK K C2'
      refine wpForce_cons rfl (fun K hK => ?_)
      go_simp
      refine (writes_any i _).mono ?_
      rintro e w3 ⟨rfl, C3'⟩
      have C3 := Lib.hid (C2.out.step C3')
      refine hK _ _ (HS.out _ C3.out) ?_
      clear hK K C3'
      refine wpForce_cons rfl (fun K hK => ?_)
      go_simp
      refine hK _ _ (HS.out _ C3.out) ?_
      clear hK K
      refine wpForce_cons rfl (fun K hK => ?_)
      go_simp
      refine hK _ _ (HS.out _ C3.out) ?_
      clear hK K
      refine wpForce_nil ?_
      go_wp2_with fail
      go_roundg (l.length - (n + 1))
      case measure => have := HN.out; omega
      case rel => exact ⟨n + 1, by have := HN.out; omega, by go_num, by rw [HX.out], HC.out.step (A0.out.step C3.out)⟩
    · obtain rfl : n = l.length := by omega
      go_wp2_with fail
      go_ret
      refine ⟨?_, hC⟩
      unfold usesF
      rw [List.take_length]
      rfl
end Go.Proofs.Ytdkplhdinklflaa
