/- ShrinkLeast returns true, whatever it is given. -/
import Derived.Test.YtokigldggkkbcaaShrinkFirst
set_option linter.unusedVariables false
namespace Go.Proofs.Ytokigldggkkbcaa
open Go.RowKit Go.RR

def low7 (y : Int) : Int := bits BinOp.and IntKind.i64 y 7
theorem low7_bd (y : Int) : 0 ≤ low7 y ∧ low7 y ≤ 7 := by
  have h : low7 y = IntKind.i64.wrap (((BitVec.ofInt 64 y &&& BitVec.ofInt 64 7).toNat : Nat) : Int) := rfl
  rw [BitVec.toNat_and, show (BitVec.ofInt 64 7).toNat = 7 from by decide] at h
  have h2 : (BitVec.ofInt 64 y).toNat &&& 7 ≤ 7 := Nat.and_le_right
  generalize (BitVec.ofInt 64 y).toNat &&& 7 = q at *
  rw [IntWalk.i64_in _ (by omega)] at h
  omega
def sum7 : List Int → Nat
  | [] => 0
  | y :: l => (low7 y).toNat + sum7 l
theorem sum7_app (a b : List Int) : sum7 (a ++ b) = sum7 a + sum7 b := by
  induction a with
  | nil => simp [sum7]
  | cons y a ih => simp [sum7, ih]; omega
theorem sum7_le (a : List Int) : sum7 a ≤ 7 * a.length := by
  induction a with
  | nil => simp [sum7]
  | cons y a ih => have := low7_bd y; simp [sum7]; omega
def badL (sum : Int) (odd : Bool) (zs : List Int) : Bool := decide (sum ≤ (sum7 zs : Int)) && (!odd || sum7 zs % 2 == 1)

set_option maxHeartbeats 1000000 in
set_option maxRecDepth 100000 in
theorem least_cl (ga gb : Nat) (v : Value) (sum : Int) (odd : Bool) (zs : List Int) (Sv : Nat → Prop) (w : World) (hA : w.cell? ⟨ga, 0, none⟩ = some (.int .i64 sum)) (hB : w.cell? ⟨gb, 0, none⟩ = some (.bool odd)) (hv : Sl w Sv 1 v zs.length (ints zs)) (hz : zs.length ≤ 1000) (r : Bool) (hr : badL sum odd zs = r) :
    Calls Try.prog 49 #[v, .pointer (some ⟨ga, 0, none⟩), .pointer (some ⟨gb, 0, none⟩)] w (RetW (.bool r) fun w' => w = w') := by
  obtain ⟨pv, cv, rfl, hcv, hcell⟩ : ∃ p c, v = .slice p zs.length c ∧ zs.length ≤ c ∧ (0 < zs.length → ∃ g off, p = some ⟨g, off, none⟩ ∧ ∀ j u, (ints zs)[j]? = some u → w.cell? ⟨g, off + j, none⟩ = some u) := by
    obtain ⟨-, p, c, e, h, h2⟩ := hv; exact ⟨p, c, e, h, fun h0 => by obtain ⟨g, off, e, -, -, h⟩ := h2 h0; exact ⟨g, off, e, h⟩⟩
  have HR := Lib.hid hr
  clear hv hr
  have hgl := World.block_lt_of_cell? w _ hA
  have hgl2 := World.block_lt_of_cell? w _ hB
  simp only at hgl hgl2
  go_enter Try.func49, Try.ntmps49
  go_wp2
  go_loopg [5, 10] zs.length (fun m s ix wr => ∃ (j t : Nat), j + m = zs.length ∧ ix = .int .i64 j ∧ s = .int .i64 t ∧ sum7 (zs.take j) = t ∧ w = wr)
  case atStart => exact ⟨0, 0, by omega, rfl, rfl, rfl, rfl⟩
  case round =>
    obtain ⟨j, t, hj, rfl, rfl, ht, rfl⟩ := hrel
    have HJ := Lib.hid hj
    have HT := Lib.hid ht
    have hjw : j ≤ zs.length := by omega
    have htb : t ≤ 7000 := by have := sum7_le (zs.take j); rw [List.length_take] at this; omega
    clear hj ht
    by_cases hlt2 : j < zs.length
    · obtain ⟨g, off, rfl, hc⟩ := hcell (by omega)
      obtain ⟨y, hy⟩ : ∃ y, zs[j]? = some y := ⟨zs[j], by simp [hlt2]⟩
      have hcy := hc j _ (ints_at hy)
      have j0 : (0 : Int) ≤ j := by omega
      have j1 : (j : Int) < zs.length := by omega
      have hb := low7_bd y
      have hsn : sum7 (zs.take (j + 1)) = t + (low7 y).toNat := by rw [List.take_add_one, hy, sum7_app, HT.out]; simp [sum7]
      have hq : bits BinOp.and IntKind.i64 y 7 = ((low7 y).toNat : Int) := by
        have : bits BinOp.and IntKind.i64 y 7 = low7 y := rfl
        omega
      have hq1 : (low7 y).toNat ≤ 7 := by omega
      generalize (low7 y).toNat = q at *
      have HSN := Lib.hid hsn
      clear hc hcell hb hy hsn
      go_wp2_with fail
      go_roundg (zs.length - (j + 1))
      case measure => have := HJ.out; omega
      case rel => exact ⟨j + 1, t + q, by have := HJ.out; omega, by go_num, by first | rfl | go_num | simp, HSN.out, rfl⟩
    · obtain rfl : j = zs.length := by have := HJ.out; omega
      have ht := HT.out
      rw [List.take_length] at ht
      have hr := HR.out
      unfold badL at hr
      rw [ht] at hr
      have HR2 := Lib.hid hr
      clear hcell ht hr
      by_cases h1 : sum ≤ t
      · have d1 : decide (sum ≤ (t : Int)) = true := by simpa using h1
        have hr := HR2.out
        rw [d1, Bool.true_and] at hr
        cases odd with
        | false =>
          rw [Bool.not_false, Bool.true_or] at hr
          subst hr
          clear HR HR2
          go_wp2_with fail
          go_ret
          exact ⟨rfl, rfl⟩
        | true =>
          rw [Bool.not_true, Bool.false_or] at hr
          by_cases h2 : t % 2 = 1
          · have d2 : ((t : Int) % 2 == 1) = true := by simp; omega
            rw [h2] at hr
            subst hr
            clear HR HR2
            go_wp2_with fail
            go_ret
            exact ⟨rfl, rfl⟩
          · have d2 : ((t : Int) % 2 == 1) = false := by simp; omega
            have h3 : (t % 2 == 1) = false := by simp [h2]
            rw [h3] at hr
            subst hr
            clear HR HR2
            go_wp2_with fail
            go_ret
            exact ⟨rfl, rfl⟩
      · have d1 : decide (sum ≤ (t : Int)) = false := by simpa using h1
        have hr := HR2.out
        rw [d1, Bool.false_and] at hr
        subst hr
        clear HR HR2
        go_wp2_with fail
        go_ret
        exact ⟨rfl, rfl⟩

theorem asks_least (ga gb : Nat) (sum : Int) (odd : Bool) (H : Nat) (hga : ga < H) (hgb : gb < H) :
    Asks 49 #[] #[.pointer (some ⟨ga, 0, none⟩), .pointer (some ⟨gb, 0, none⟩)] 3 (Value.int .i64) (badL sum odd) 1000000000 H NoB
      (fun _ w => w.cell? ⟨ga, 0, none⟩ = some (.int .i64 sum) ∧ w.cell? ⟨gb, 0, none⟩ = some (.bool odd)) where
  old := fun k h => h.elim
  keep := fun n w w' h _ c => ⟨c.cell h.1 (by simp only; omega), c.cell h.2 (by simp only; omega)⟩
  call := fun n w v zs Sv h _ hz hn hv hSv => (least_cl ga gb v sum odd zs Sv w h.1 h.2 hv.sl (by omega) _ rfl).mono fun e w' ⟨h1, h2⟩ => by
    subst h2; exact ⟨h1, h, Chg.refl _ _⟩
  enter := enters_of Try.func49 (by kernel_rfl) rfl

set_option maxHeartbeats 4000000 in
set_option maxRecDepth 100000 in
theorem shrinkLeast_any (v : Value) (zs : List Int) (sum : Int) (odd : Bool) (w : World) (hs : Sl w (fun k => k < w.heap.size) 1 v zs.length (ints zs)) (hlen : zs.length ≤ 9223372036854775807) :
    Calls Try.prog 9 #[v, .int .i64 sum, .bool odd] w (RetW (.bool true) fun w' => Chg NoB w w') := by
  obtain ⟨pl, cl, rfl⟩ : ∃ p c, v = .slice p zs.length c := by obtain ⟨-, p, c, e, -⟩ := hs; exact ⟨p, c, e⟩
  have HS := Lib.hid hs
  have A1 := (Chg.refl NoB w).alloc (.cells #[.int .i64 sum] 3)
  have A2 := (Chg.refl NoB (w.alloc (.cells #[.int .i64 sum] 3))).alloc (.cells #[.bool odd] 4)
  have B1 := A2.blk0 (Blk.new w #[.int .i64 sum] 3)
  have B2 := Blk.new (w.alloc (.cells #[.int .i64 sum] 3)) #[.bool odd] 4
  have hz2 : ((w.alloc (.cells #[.int .i64 sum] 3)).alloc (.cells #[.bool odd] 4)).heap.size = w.heap.size + 1 + 1 := by simp
  rw [show (w.alloc (.cells #[.int .i64 sum] 3)).heap.size = w.heap.size + 1 from by simp] at B2
  have HB1 := Lib.hid B1
  have HB2 := Lib.hid B2
  have HZ2 := Lib.hid hz2
  have CA := A1.step A2
  clear hs A1 A2 B1 B2 hz2
  by_cases hbig : 100 < zs.length
  · have hd : decide ((100 : Int) < (zs.length : Int)) = true := by simp; omega
    clear hbig
    go_enter Try.func9, Try.ntmps9
    go_upto_region 1 with fail
    generalize hw2 : (w.alloc (.cells #[.int .i64 sum] 3)).alloc (.cells #[.bool odd] 4) = w2 at *
    clear hw2
    go_wp2_with fail
    refine (first38 w2).mono ?_
    rintro e w1 ⟨rfl, C1⟩
    go_wp2
    go_ret
    exact ⟨rfl, CA.step C1⟩
  · have hd : decide ((100 : Int) < (zs.length : Int)) = false := by simp; omega
    have hz100 : zs.length ≤ 100 := by omega
    clear hbig
    obtain ⟨⟨out, cnt⟩, hres⟩ : ∃ x, shrinkF (badL sum odd) zs = x := ⟨_, rfl⟩
    have HRES := Lib.hid hres
    go_enter Try.func9, Try.ntmps9
    go_upto_region 1 with fail
    generalize hw2 : (w.alloc (.cells #[.int .i64 sum] 3)).alloc (.cells #[.bool odd] 4) = w2 at *
    obtain ⟨ga, hga⟩ : ∃ ga, w.heap.size = ga := ⟨_, rfl⟩
    have HGA := Lib.hid hga
    clear hw2 hres
    rw [hga]
    clear hga
    go_wp2_with fail
    refine (first38 w2).mono ?_
    rintro e w3 ⟨rfl, C3⟩
    have CA3 := CA.step C3
    have hz3 := C3.size
    have I3 : w3.cell? ⟨ga, 0, none⟩ = some (.int .i64 sum) ∧ w3.cell? ⟨ga + 1, 0, none⟩ = some (.bool odd) := by
      rw [← HGA.out]
      exact ⟨(C3.blk0 HB1.out).cell' (i := 0) (by rfl), (C3.blk0 HB2.out).cell' (i := 0) (by rfl)⟩
    have HI3 := Lib.hid I3
    clear I3
    go_wp2_with fail
    refine (n_shrink w3 (asks_least ga (ga + 1) sum odd w3.heap.size (by have := HZ2.out; have := HGA.out; omega) (by have := HZ2.out; have := HGA.out; omega)) 0 _ zs out cnt HI3.out (by omega) (by omega) (HS.out.chg0 CA3) HRES.out).mono ?_
    rintro e w4 ⟨q4, rfl, O4, I4, C4⟩
    have HI4 := Lib.hid I4
    have HO4 := Lib.hid O4
    have CA4 := CA3.step C4
    have e1 : ∀ args w, (callFunc 49 args).run Try.prog w = .ok (.enter 49 args) w := enters_of Try.func49 (by kernel_rfl) rfl
    clear I4 O4
    go_wp2_with fail
    refine (least_cl ga (ga + 1) _ sum odd zs _ w4 HI4.out.1 HI4.out.2 (HS.out.chg0 CA4) (by omega) _ rfl).mono ?_
    rintro e w5 ⟨rfl, rfl⟩
    cases hp : badL sum odd zs with
    | false =>
      have hout : out = zs := by have := HRES.out; rw [shrinkF_not _ _ hp] at this; exact (Prod.mk.inj this).1.symm
      have HOUT := Lib.hid hout
      clear hp hout
      go_wp2_with fail
      refine (sh_same _ _ _ _ _ _ out zs w4 HO4.out.sl (HS.out.chg0 CA4) (by have := HOUT.out; rw [this]; omega) (by omega) true (by have := HOUT.out; simp [this])).mono ?_
      rintro e w6 ⟨rfl, n6, rfl⟩
      go_wp2
      go_ret
      exact ⟨rfl, CA4.drewN n6⟩
    | true =>
      obtain ⟨f1, f2, f3, f4⟩ := shrinkF_least _ zs (by omega) hp
      rw [HRES.out] at f1 f2 f3 f4
      have f2 : out.length ≤ zs.length := f2
      have F1 := Lib.hid f1
      have F4 := Lib.hid f4
      obtain ⟨p4, c4, rfl⟩ : ∃ p c, q4 = .slice p out.length c := by obtain ⟨-, p, c, e, -⟩ := HO4.out.sl; exact ⟨p, c, e⟩
      clear hp f1 f3 f4
      go_wp2_with fail
      refine (least_cl ga (ga + 1) _ sum odd out _ w4 HI4.out.1 HI4.out.2 HO4.out.sl (by omega) true F1.out).mono ?_
      rintro e w5 ⟨rfl, rfl⟩
      go_wp2_with fail
      go_loopg [32] out.length (fun m ix wr => ∃ j : Nat, j + m = out.length ∧ ix = .int .i64 j ∧ Chg NoB w4 wr)
      case atStart => exact ⟨0, by omega, rfl, Chg.refl _ _⟩
      case round =>
        obtain ⟨j, hj, rfl, C6⟩ := hrel
        have HJ := Lib.hid hj
        have hjw : j ≤ out.length := by omega
        clear hj
        by_cases hlt2 : j < out.length
        · have f := F4.out j hlt2
          have HF := Lib.hid f
          clear f
          go_wp2_with fail
          refine (sh_without _ _ out wr j 1 (HO4.out.sl.chg0 C6) (by omega) (by omega) (by omega) (by omega) (by omega)).mono ?_
          rintro e w7 ⟨q7, rfl, O7, C7⟩
          have hwo : woF out j 1 = without out j 1 := by unfold woF; rw [if_neg (by omega)]; simp
          rw [hwo] at O7
          have hwl := without_len_le out j 1
          have C8 := C6.step C7
          clear hwo
          go_wp2_with fail
          refine (least_cl ga (ga + 1) _ sum odd (without out j 1) _ w7 (C8.cell HI4.out.1 id) (C8.cell HI4.out.2 id) O7.sl (by omega) false HF.out).mono ?_
          rintro e w8 ⟨rfl, rfl⟩
          go_wp2_with fail
          go_roundg (out.length - (j + 1))
          case measure => have := HJ.out; omega
          case rel => exact ⟨j + 1, by omega, by go_num, C8⟩
        · obtain rfl : j = out.length := by have := HJ.out; omega
          go_wp2
          go_ret
          exact ⟨rfl, CA4.step C6⟩
end Go.Proofs.Ytokigldggkkbcaa
