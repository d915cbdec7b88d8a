/- BuildWords returns true, whatever it is given. -/
import Derived.Test.YtdkplhdinklflaaBuildFirst
import Derived.Test.YtdkplhdinklflaaBuild17
set_option linter.unusedVariables false
namespace Go.Proofs.Ytdkplhdinklflaa
open Go.RowKit Go.RR

theorem IsNew.chg {w w' : World} {v : Value} {l : List In} (h : IsNew w w' v l) : Chg NoB w w' := h.2
theorem same_refl (v v' : Value) (l : List In) (w : World) (h : PAt w v l) (h' : PAt w v' l) (hl : l.length ≤ 100000) : Calls Try.prog 14 #[v, v'] w (RetW (.bool true) fun w' => Chg NoB w w') := by
  have := same_any _ _ v v' l l w h.choose_spec h'.choose_spec hl hl
  rwa [decide_eq_true rfl] at this
theorem fillF_len (base imm n rs : Int) : (fillF base imm n rs).length ≤ 1000 := by
  unfold fillF
  split
  · rename_i h
    rw [Bool.and_eq_true] at h
    have := placesB_n h.1
    rw [fillL_len]; omega
  · simp
theorem sumF_len (rd t base imm n : Int) : (sumF rd t base imm n).length ≤ 1000 := by
  unfold sumF
  split
  · rename_i h
    rw [Bool.and_eq_true] at h
    have := placesB_n h.1
    rw [sumL_len]; omega
  · simp
theorem meetF_len (base imm n t u w : Int) : (meetF base imm n t u w).length ≤ 1000 := by
  unfold meetF
  split
  · have := constF_len w n
    unfold meetL
    simp; omega
  · simp

set_option maxHeartbeats 8000000 in
set_option maxRecDepth 100000 in
theorem buildWords_any (base imm n rs t u x : Int) (w : World) (hb : -9223372036854775808 ≤ n ∧ n ≤ 9223372036854775807) : Calls Try.prog 5 #[.agg #[.int .i64 base, .int .i64 imm, .int .i64 n, .int .i64 rs], .agg #[.int .i64 t, .int .i64 u, .int .i64 x]] w (RetW (.bool true) fun w' => Chg NoB w w') := by
  have B0 := Lib.hid (((Blk.new w #[.int .i64 base, .int .i64 imm, .int .i64 n, .int .i64 rs] 22).alloc (.cells #[.int .i64 t, .int .i64 u, .int .i64 x] 34)))
  have D0 := Lib.hid (Blk.new (w.alloc (.cells #[.int .i64 base, .int .i64 imm, .int .i64 n, .int .i64 rs] 22)) #[.int .i64 t, .int .i64 u, .int .i64 x] 34)
  have A0 := Lib.hid (((Chg.refl NoB w).alloc (.cells #[.int .i64 base, .int .i64 imm, .int .i64 n, .int .i64 rs] 22)).alloc (.cells #[.int .i64 t, .int .i64 u, .int .i64 x] 34))
  have HBN := Lib.hid hb
  clear hb
  go_enter Try.func5, Try.ntmps5
  go_wp2_with fail
  refine (first39_any _).mono ?_
  rintro e w1 ⟨rfl, C1⟩
  have B1 := C1.blk0 B0.out
  have D1 := C1.blk0 D0.out
  have hz : (w.alloc (.cells #[.int .i64 base, .int .i64 imm, .int .i64 n, .int .i64 rs] 22)).heap.size = w.heap.size + 1 := by simp
  rw [hz] at D1
  have HC1 := Lib.hid (A0.out.step C1)
  have x0 := B1.cell' (i := 0) (v := .int .i64 base) (by rfl)
  have x1 := B1.cell' (i := 1) (v := .int .i64 imm) (by rfl)
  have x2 := B1.cell' (i := 2) (v := .int .i64 n) (by rfl)
  have x3 := B1.cell' (i := 3) (v := .int .i64 rs) (by rfl)
  have HD := Lib.hid D1
  clear C1 B1 B0 A0 D0 D1 hz
  go_wp2_with fail
  go_quiet (fail)
  clear x0 x1 x2 x3
  have HD2 := Lib.hid (HD.out.drewN nq)
  have AC := HC1.out.drewN nq
  generalize w1.drewN nq = w2 at HD2 AC ⊢
  have HC2 := Lib.hid AC
  obtain ⟨b, hbb⟩ : ∃ b, w.heap.size + 1 = b := ⟨_, rfl⟩
  rw [hbb] at HD2 ⊢
  have y0 := HD2.out.cell' (i := 0) (v := .int .i64 t) (by rfl)
  have y1 := HD2.out.cell' (i := 1) (v := .int .i64 u) (by rfl)
  have y2 := HD2.out.cell' (i := 2) (v := .int .i64 x) (by rfl)
  clear AC HC1 HD hbb
  go_wp2_with fail
  go_region_held3 (fun w' => w'.cell? ⟨b, 0, none⟩ = some (.int .i64 t) ∧ w'.cell? ⟨b, 1, none⟩ = some (.int .i64 u) ∧ w'.cell? ⟨b, 2, none⟩ = some (.int .i64 x)) (exact ⟨by assumption, by assumption, by assumption⟩)
    (first
      | (go_at_call 27; (with_reducible refine (fill_any base imm n rs _ HBN.out).mono ?_); rintro e wa ⟨va, rfl, Na⟩; have z0 := Na.2.cell (a := ⟨b, 0, none⟩) (v := .int .i64 t) (by assumption) id; have z1 := Na.2.cell (a := ⟨b, 1, none⟩) (v := .int .i64 u) (by assumption) id; have z2 := Na.2.cell (a := ⟨b, 2, none⟩) (v := .int .i64 x) (by assumption) id)
      | (go_at_call 28; (with_reducible refine (rfill_any base imm n rs _ HBN.out).mono ?_); rintro e wb ⟨vb, rfl, Nb⟩; have z0 := Nb.2.cell (a := ⟨b, 0, none⟩) (v := .int .i64 t) (by assumption) id; have z1 := Nb.2.cell (a := ⟨b, 1, none⟩) (v := .int .i64 u) (by assumption) id; have z2 := Nb.2.cell (a := ⟨b, 2, none⟩) (v := .int .i64 x) (by assumption) id)
      | (go_at_call 14; (with_reducible refine (same_refl _ _ (fillF base imm n rs) _ (Na.at.chg0 Nb.chg) Nb.at (by have := fillF_len base imm n rs; omega)).mono ?_); rintro e wc ⟨rfl, Cc⟩; have z0 := Cc.cell (a := ⟨b, 0, none⟩) (v := .int .i64 t) (by assumption) id; have z1 := Cc.cell (a := ⟨b, 1, none⟩) (v := .int .i64 u) (by assumption) id; have z2 := Cc.cell (a := ⟨b, 2, none⟩) (v := .int .i64 x) (by assumption) id)
      | (go_at_call 29; (with_reducible refine (sum_any rs t base imm n _ HBN.out).mono ?_); rintro e wd ⟨vd, rfl, Nd⟩; have z0 := Nd.2.cell (a := ⟨b, 0, none⟩) (v := .int .i64 t) (by assumption) id; have z1 := Nd.2.cell (a := ⟨b, 1, none⟩) (v := .int .i64 u) (by assumption) id; have z2 := Nd.2.cell (a := ⟨b, 2, none⟩) (v := .int .i64 x) (by assumption) id)
      | (go_at_call 30; (with_reducible refine (rsum_any rs t base imm n _ HBN.out).mono ?_); rintro e wf ⟨vf, rfl, Nf⟩; have z0 := Nf.2.cell (a := ⟨b, 0, none⟩) (v := .int .i64 t) (by assumption) id; have z1 := Nf.2.cell (a := ⟨b, 1, none⟩) (v := .int .i64 u) (by assumption) id; have z2 := Nf.2.cell (a := ⟨b, 2, none⟩) (v := .int .i64 x) (by assumption) id)
      | (go_at_call 14; (with_reducible refine (same_refl _ _ (sumF rs t base imm n) _ (Nd.at.chg0 Nf.chg) Nf.at (by have := sumF_len rs t base imm n; omega)).mono ?_); rintro e wg ⟨rfl, Cg⟩; have z0 := Cg.cell (a := ⟨b, 0, none⟩) (v := .int .i64 t) (by assumption) id; have z1 := Cg.cell (a := ⟨b, 1, none⟩) (v := .int .i64 u) (by assumption) id; have z2 := Cg.cell (a := ⟨b, 2, none⟩) (v := .int .i64 x) (by assumption) id)
      | (go_at_call 31; (with_reducible refine (meet_any base imm n t u x _).mono ?_); rintro e wh ⟨vh, rfl, Nh⟩; have z0 := Nh.2.cell (a := ⟨b, 0, none⟩) (v := .int .i64 t) (by assumption) id; have z1 := Nh.2.cell (a := ⟨b, 1, none⟩) (v := .int .i64 u) (by assumption) id; have z2 := Nh.2.cell (a := ⟨b, 2, none⟩) (v := .int .i64 x) (by assumption) id)
      | (go_at_call 32; (with_reducible refine (rmeet_any base imm n t u x _).mono ?_); rintro e wi ⟨vi, rfl, Ni⟩; have z0 := Ni.2.cell (a := ⟨b, 0, none⟩) (v := .int .i64 t) (by assumption) id; have z1 := Ni.2.cell (a := ⟨b, 1, none⟩) (v := .int .i64 u) (by assumption) id; have z2 := Ni.2.cell (a := ⟨b, 2, none⟩) (v := .int .i64 x) (by assumption) id)
      | (go_at_call 14; (with_reducible refine (same_refl _ _ (meetF base imm n t u x) _ (Nh.at.chg0 Ni.chg) Ni.at (by have := meetF_len base imm n t u x; omega)).mono ?_); rintro e wj ⟨rfl, Cj⟩; have z0 := Cj.cell (a := ⟨b, 0, none⟩) (v := .int .i64 t) (by assumption) id; have z1 := Cj.cell (a := ⟨b, 1, none⟩) (v := .int .i64 u) (by assumption) id; have z2 := Cj.cell (a := ⟨b, 2, none⟩) (v := .int .i64 x) (by assumption) id))
  all_goals
    have CA := Lib.hid (((((((((HC2.out.drew.step Na.chg).step Nb.chg).step Cc).step Nd.chg).step Nf.chg).step Cg).step Nh.chg).step Ni.chg).step Cj)
    clear Na Nb Cc Nd Nf Cg Nh Ni Cj
    go_wp2
    go_ret
    exact ⟨rfl, CA.out⟩
end Go.Proofs.Ytdkplhdinklflaa
