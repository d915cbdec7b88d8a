/- Two lists of the same blocks are the same. No condition. -/
import Derived.Test.YtdkplhdinklflaaFlow14
set_option linter.unusedVariables false
namespace Go.Proofs.Ytdkplhdinklflaa
open Go.RowKit Go.RR

theorem BkAt.spot {w : World} {B : Nat} {p : Option Addr} {n c : Nat} {bs : List Bk} (h : BkAt w B (.slice p n c) bs) {i : Nat} {b : Bk} (hi : bs[i]? = some b) :
    n ≤ c ∧ ∃ g of pv cv, p = some ⟨g, of, none⟩ ∧ g < w.heap.size ∧ w.cell? ⟨g, of + i * 3, none⟩ = some (.int .i64 b.1) ∧ w.cell? ⟨g, of + i * 3 + 1, none⟩ = some (.int .i64 b.2.1) ∧ w.cell? ⟨g, of + i * 3 + 2, none⟩ = some (.slice pv b.2.2.length cv) ∧ IAt w (.slice pv b.2.2.length cv) (casts b.2.2) := by
  obtain ⟨S1, S2, vs, -, -, hO, hR⟩ := h
  obtain ⟨v, hv, hs⟩ := hR.2 i b hi
  obtain ⟨k0, k1, k2⟩ := kcells_at bs vs i b v hi hv
  have hI : IAt w v (casts b.2.2) := ⟨S2, by rw [casts_len]; exact hs⟩
  obtain ⟨pv, cv, rfl⟩ := hs.form
  obtain ⟨-, p', c', e, hc, hcell⟩ := hO.sl
  cases e
  obtain ⟨g, of, hp, -, hg, hx⟩ := hcell (by have := (List.getElem?_eq_some_iff.1 hi).1; omega)
  exact ⟨hc, g, of, pv, cv, hp, hg, hx _ _ k0, by rw [Nat.add_assoc]; exact hx _ _ k1, by rw [Nat.add_assoc]; exact hx _ _ k2, hI⟩

set_option maxHeartbeats 4000000 in
set_option maxRecDepth 100000 in
theorem rsame_any {w : World} {B B' : Nat} {va vb : Value} {bs : List Bk} (ha : BkAt w B va bs) (hb : BkAt w B' vb bs) (hl : bs.length ≤ 1000) (hs : ∀ b ∈ bs, b.2.2.length ≤ 1000) : Calls Try.prog 38 #[va, vb] w (RetW (.bool true) fun w' => Chg NoB w w') := by
  obtain ⟨pa, ca, rfl⟩ := ha.form
  obtain ⟨pb, cb, rfl⟩ := hb.form
  have HA := Lib.hid ha
  have HB := Lib.hid hb
  have HSS := Lib.hid hs
  have q0 : ((bs.length : Int) != bs.length) = false := by simp
  have q0' : (bs.length != bs.length) = false := by simp
  clear ha hb hs
  go_enter Try.func38, Try.ntmps38
  go_wp2_with fail
  go_loopg [13] bs.length (fun gk ix wr => ∃ k : Nat, k + gk = bs.length ∧ ix = .int .i64 k ∧ Chg NoB w wr)
  case atStart => exact ⟨0, by omega, rfl, Chg.refl _ _⟩
  case round =>
    obtain ⟨k, hk, rfl, hC⟩ := hrel
    rename World => wr
    have HK := Lib.hid hk
    have HC := Lib.hid hC
    have hkl : k ≤ bs.length := by omega
    clear hk hC
    by_cases hlt : k < bs.length
    · obtain ⟨b, hbk⟩ : ∃ b, bs[k]? = some b := ⟨bs[k], by simp [hlt]⟩
      have hbl := HSS.out b (List.mem_of_getElem? hbk)
      obtain ⟨hca, ga, oa, pva, cva, rfl, hga, a0, a1, a2, aI⟩ := (HA.out.chg HC.out fun _ _ _ => id).spot hbk
      obtain ⟨hcb, gb, ob, pvb, cvb, rfl, hgb, b0, b1, b2, bI⟩ := (HB.out.chg HC.out fun _ _ _ => id).spot hbk
      obtain ⟨f, t, ls⟩ := b
      simp only at a0 a1 a2 aI b0 b1 b2 bI hbl
      have k0 : (0 : Int) ≤ k := by omega
      have k1 : (k : Int) < bs.length := by omega
      have q1 : ((f : Int) != f) = false := by simp
      have q2 : ((t : Int) != t) = false := by simp
      have HI1 := Lib.hid (aI.chg0 (Chg.refl NoB wr).drew)
      have HI2 := Lib.hid (bI.chg0 (Chg.refl NoB wr).drew)
      have HLS : (casts ls).length ≤ 100000 := by rw [casts_len]; omega
      clear hbk aI bI
      go_wp2_with fail
      go_region_held3 (fun w' => w'.cell? ⟨ga, oa + k * 3, none⟩ = some (.int .i64 f) ∧ w'.cell? ⟨ga, oa + k * 3 + 1, none⟩ = some (.int .i64 t) ∧ w'.cell? ⟨ga, oa + k * 3 + 2, none⟩ = some (.slice pva ls.length cva) ∧ w'.cell? ⟨gb, ob + k * 3, none⟩ = some (.int .i64 f) ∧ w'.cell? ⟨gb, ob + k * 3 + 1, none⟩ = some (.int .i64 t) ∧ w'.cell? ⟨gb, ob + k * 3 + 2, none⟩ = some (.slice pvb ls.length cvb)) (exact ⟨by assumption, by assumption, by assumption, by assumption, by assumption, by assumption⟩)
        ((go_at_call 35; (with_reducible refine (ints_any _ _ (casts ls) (casts ls) _ HI1.out HI2.out HLS HLS).mono ?_); rintro e wa ⟨rfl, Ca⟩; have z0 := Ca.cell (a := ⟨ga, oa + k * 3, none⟩) (v := .int .i64 f) (by assumption) id; have z1 := Ca.cell (a := ⟨ga, oa + k * 3 + 1, none⟩) (v := .int .i64 t) (by assumption) id; have z2 := Ca.cell (a := ⟨ga, oa + k * 3 + 2, none⟩) (v := .slice pva ls.length cva) (by assumption) id; have z3 := Ca.cell (a := ⟨gb, ob + k * 3, none⟩) (v := .int .i64 f) (by assumption) id; have z4 := Ca.cell (a := ⟨gb, ob + k * 3 + 1, none⟩) (v := .int .i64 t) (by assumption) id; have z5 := Ca.cell (a := ⟨gb, ob + k * 3 + 2, none⟩) (v := .slice pvb ls.length cvb) (by assumption) id))
      have HCa := Lib.hid (HC.out.drew.step Ca)
      clear Ca z0 z1 z2 z3 z4 z5
      go_wp2_with fail
      go_roundg (bs.length - (k + 1))
      case measure => have := HK.out; omega
      case rel => exact ⟨k + 1, by have := HK.out; omega, by go_num, HCa.out⟩
    · obtain rfl : k = bs.length := by omega
      go_wp2_with fail
      go_ret
      exact ⟨rfl, HC.out⟩
end Go.Proofs.Ytdkplhdinklflaa
