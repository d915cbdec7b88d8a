/- FlowRegisters returns true, whatever it is given. No condition. -/
import Derived.Test.YtdkplhdinklflaaBuild12
import Derived.Test.YtdkplhdinklflaaFlow3
import Derived.Test.YtdkplhdinklflaaFlow19
set_option linter.unusedVariables false
namespace Go.Proofs.Ytdkplhdinklflaa
open Go.RowKit Go.RR

set_option maxHeartbeats 8000000 in
set_option maxRecDepth 100000 in
theorem flowRegisters_any (S : Nat → Prop) (v : Value) (l : List In) (w : World) (hs : Sl w S 5 v l.length (icells l)) (hl : l.length ≤ 9223372036854775807) :
    Calls Try.prog 8 #[v] w (RetW (.bool true) fun w' => Chg NoB w w') := by
  obtain ⟨pv, cv, rfl⟩ := hs.form
  have HS0 := Lib.hid hs
  have HL := Lib.hid hl
  clear hs hl
  go_enter Try.func8, Try.ntmps8
  go_wp2_with fail
  refine (first31_any _).mono ?_
  rintro e w1 ⟨rfl, C1⟩
  have HC1 := Lib.hid C1
  clear C1
  go_wp2_with fail
  refine (right31_any _ _ l _ (HS0.out.chg0 HC1.out) HL.out).mono ?_
  rintro e w2 ⟨rfl, C2⟩
  have HC2 := Lib.hid (HC1.out.step C2)
  clear C2
  cases hA : askB l
  · clear hA
    go_wp2_with fail
    go_ret
    exact ⟨rfl, HC2.out⟩
  · obtain ⟨h40, hr⟩ := askB_in hA
    have HR := Lib.hid hr
    clear hA hr
    obtain ⟨px, cx, hpe, hI⟩ := InsAt.of HS0.out (by omega)
    cases hpe
    have HI := Lib.hid hI
    clear hI
    go_wp2_with fail
    go_loopg [12] l.length (fun gk ix wr => ∃ n : Nat, n + gk = l.length ∧ ix = .int .i64 n ∧ Chg NoB w wr)
    case atStart => exact ⟨0, by omega, rfl, HC2.out⟩
    case round =>
      obtain ⟨n, hn, rfl, hC⟩ := hrel
      rename World => wr
      have HN := Lib.hid hn
      have HC := Lib.hid hC
      have hnl : n ≤ l.length := by omega
      clear hn hC
      by_cases hlt : n < l.length
      · obtain ⟨i, hi⟩ : ∃ i, l[n]? = some i := ⟨l[n], by simp [hlt]⟩
        obtain ⟨g, of, rfl, hg, x0, x1, x2, x3, x4⟩ := (HI.out.chg0 HC.out).at hi
        have hcap := HI.out.cap
        have n0 : (0 : Int) ≤ n := by omega
        clear hi
        have q0 : ((readsF i : Int) != readsF i) = false := by simp
        have q0' : (readsF i != readsF i) = false := by simp
        have q1 : ((writesF i : Int) != writesF i) = false := by simp
        have q1' : (writesF i != writesF i) = false := by simp
        have A0 := Lib.hid ((Chg.refl NoB wr).alloc (.cells #[.int .i64 i.op, .int .i64 i.rd, .int .i64 i.rs, .int .i64 i.rt, .int .i64 i.im] 32))
        have B0 := Lib.hid (Blk.new wr #[.int .i64 i.op, .int .i64 i.rd, .int .i64 i.rs, .int .i64 i.rt, .int .i64 i.im] 32)
        have hS : ∀ w', Chg NoB (wr.alloc (.cells #[.int .i64 i.op, .int .i64 i.rd, .int .i64 i.rs, .int .i64 i.rt, .int .i64 i.im] 32)) w' → w'.cell? ⟨wr.heap.size, 0, none⟩ = some (.int .i64 i.op) ∧ w'.cell? ⟨wr.heap.size, 1, none⟩ = some (.int .i64 i.rd) ∧ w'.cell? ⟨wr.heap.size, 2, none⟩ = some (.int .i64 i.rs) ∧ w'.cell? ⟨wr.heap.size, 3, none⟩ = some (.int .i64 i.rt) ∧ w'.cell? ⟨wr.heap.size, 4, none⟩ = some (.int .i64 i.im) := fun w' c => by
          have B := c.blk0 B0.out
          exact ⟨B.cell' (i := 0) rfl, B.cell' (i := 1) rfl, B.cell' (i := 2) rfl, B.cell' (i := 3) rfl, B.cell' (i := 4) rfl⟩
        have HS := Lib.hid hS
        clear hS
        go_wp2_with fail
        clear x0 x1 x2 x3 x4
        have s0 := HS.out _ ((Chg.refl NoB _).drew)
        obtain ⟨a0, a1, a2, a3, a4⟩ := s0
        go_region_held3 (fun w' => w'.cell? ⟨wr.heap.size, 0, none⟩ = some (.int .i64 i.op) ∧ w'.cell? ⟨wr.heap.size, 1, none⟩ = some (.int .i64 i.rd) ∧ w'.cell? ⟨wr.heap.size, 2, none⟩ = some (.int .i64 i.rs) ∧ w'.cell? ⟨wr.heap.size, 3, none⟩ = some (.int .i64 i.rt) ∧ w'.cell? ⟨wr.heap.size, 4, none⟩ = some (.int .i64 i.im)) (exact ⟨by assumption, by assumption, by assumption, by assumption, by assumption⟩)
          (first
            | (go_at_call 47; (with_reducible refine (freads_any i _).mono ?_); rintro e wCa ⟨rfl, Ca⟩; have z0 := Ca.cell (a := ⟨wr.heap.size, 0, none⟩) (v := .int .i64 i.op) (by assumption) id; have z1 := Ca.cell (a := ⟨wr.heap.size, 1, none⟩) (v := .int .i64 i.rd) (by assumption) id; have z2 := Ca.cell (a := ⟨wr.heap.size, 2, none⟩) (v := .int .i64 i.rs) (by assumption) id; have z3 := Ca.cell (a := ⟨wr.heap.size, 3, none⟩) (v := .int .i64 i.rt) (by assumption) id; have z4 := Ca.cell (a := ⟨wr.heap.size, 4, none⟩) (v := .int .i64 i.im) (by assumption) id)
            | (go_at_call 48; (with_reducible refine (reads_any i _).mono ?_); rintro e wCb ⟨rfl, Cb⟩; have z0 := Cb.cell (a := ⟨wr.heap.size, 0, none⟩) (v := .int .i64 i.op) (by assumption) id; have z1 := Cb.cell (a := ⟨wr.heap.size, 1, none⟩) (v := .int .i64 i.rd) (by assumption) id; have z2 := Cb.cell (a := ⟨wr.heap.size, 2, none⟩) (v := .int .i64 i.rs) (by assumption) id; have z3 := Cb.cell (a := ⟨wr.heap.size, 3, none⟩) (v := .int .i64 i.rt) (by assumption) id; have z4 := Cb.cell (a := ⟨wr.heap.size, 4, none⟩) (v := .int .i64 i.im) (by assumption) id)
            | (go_at_call 49; (with_reducible refine (fwrites_any i _).mono ?_); rintro e wCc ⟨rfl, Cc⟩; have z0 := Cc.cell (a := ⟨wr.heap.size, 0, none⟩) (v := .int .i64 i.op) (by assumption) id; have z1 := Cc.cell (a := ⟨wr.heap.size, 1, none⟩) (v := .int .i64 i.rd) (by assumption) id; have z2 := Cc.cell (a := ⟨wr.heap.size, 2, none⟩) (v := .int .i64 i.rs) (by assumption) id; have z3 := Cc.cell (a := ⟨wr.heap.size, 3, none⟩) (v := .int .i64 i.rt) (by assumption) id; have z4 := Cc.cell (a := ⟨wr.heap.size, 4, none⟩) (v := .int .i64 i.im) (by assumption) id)
            | (go_at_call 50; (with_reducible refine (writes_any i _).mono ?_); rintro e wCd ⟨rfl, Cd⟩; have z0 := Cd.cell (a := ⟨wr.heap.size, 0, none⟩) (v := .int .i64 i.op) (by assumption) id; have z1 := Cd.cell (a := ⟨wr.heap.size, 1, none⟩) (v := .int .i64 i.rd) (by assumption) id; have z2 := Cd.cell (a := ⟨wr.heap.size, 2, none⟩) (v := .int .i64 i.rs) (by assumption) id; have z3 := Cd.cell (a := ⟨wr.heap.size, 3, none⟩) (v := .int .i64 i.rt) (by assumption) id; have z4 := Cd.cell (a := ⟨wr.heap.size, 4, none⟩) (v := .int .i64 i.im) (by assumption) id))
        have CA := Lib.hid (((((Chg.refl NoB _).drew.step Ca).step Cb).step Cc).step Cd)
        clear Ca Cb Cc Cd
        go_wp2_with fail
        go_roundg (l.length - (n + 1))
        case measure => have := HN.out; omega
        case rel => exact ⟨n + 1, by have := HN.out; omega, by go_num, HC.out.step (A0.out.step CA.out)⟩
      · obtain rfl : n = l.length := by omega
        go_wp2_with fail
        refine (fraw_any _ _ l _ (HS0.out.chg0 HC.out) h40 HR.out).mono ?_
        rintro e w3 ⟨rfl, C3⟩
        have HC3 := Lib.hid (HC.out.step C3)
        clear C3
        go_wp2_with fail
        refine (rraw_any _ _ l _ (HS0.out.chg0 HC3.out) h40 HR.out).mono ?_
        rintro e w4 ⟨rfl, C4⟩
        have HC4 := Lib.hid (HC3.out.step C4)
        clear C4
        have z0 : ((rawF (nxN l) l.length (wrN l) (rdN l) : Int) == rawF (nxN l) l.length (wrN l) (rdN l)) = true := by simp
        go_wp2_with fail
        go_ret
        exact ⟨rfl, HC4.out⟩
end Go.Proofs.Ytdkplhdinklflaa
