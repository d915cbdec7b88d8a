/- The reference of layer 38: Shrink. -/
import Derived.Test.YtokigldggkkbcaaShrinkRef2
import Derived.Deep.CutBlock
set_option linter.unusedVariables false
namespace Go.Proofs.Ytokigldggkkbcaa
open Go.RowKit Go.RR

def RefCut (w wr wx : World) (q0 s0 s9 : Value) : Option (List Int) → Prop
  | none => s9 = .bool false ∧ s0 = q0
  | some ws => s9 = .bool true ∧ Own wx (fun k => w.heap.size ≤ k) 3 1 s0 ws.length (ints ws)

set_option maxHeartbeats 2000000 in
set_option maxRecDepth 100000 in
theorem sh_shrink (S1 S2 : Nat → Prop) (mv v : Value) (must zs out : List Int) (cnt : Nat) (w : World) (h1 : Sl w S1 1 mv must.length (ints must)) (h2 : Sl w S2 1 v zs.length (ints zs)) (hl : must.length ≤ 1000000) (hl2 : zs.length ≤ 200) (hr : shrinkF (badOf must) zs = (out, cnt)) :
    Calls Try.prog 47 #[v, .agg #[mv]] w (RetV fun r w' => ∃ q, r = .tuple #[q, .int .i64 cnt] ∧ Sl w' (fun k => S2 k ∨ w.heap.size ≤ k) 1 q out.length (ints out) ∧ Chg NoB w w') := by
  obtain ⟨p1, c1, rfl⟩ : ∃ p c, mv = .slice p must.length c := by obtain ⟨-, p, c, e, -⟩ := h1; exact ⟨p, c, e⟩
  obtain ⟨p2, c2, rfl⟩ : ∃ p c, v = .slice p zs.length c := by obtain ⟨-, p, c, e, -⟩ := h2; exact ⟨p, c, e⟩
  have HR := Lib.hid hr
  have A0 := (Chg.refl NoB w).alloc (.cells #[.slice p1 must.length c1] 73)
  have B0 := Blk.new w #[.slice p1 must.length c1] 73
  have H1 := Lib.hid (h1.chg0 A0)
  have H2 := Lib.hid (h2.chg0 A0)
  have hr0 := hr
  unfold shrinkF at hr0
  generalize hbb : badOf must = p at *
  have HP := Lib.hid hbb
  clear h1 h2 hr hbb
  go_enter Try.func47, Try.ntmps47
  go_upto_region 1 with fail
  generalize hw1 : w.alloc (.cells #[.slice p1 must.length c1] 73) = w1 at *
  obtain ⟨bb, hbb⟩ : ∃ bb, w.heap.size = bb := ⟨_, rfl⟩
  rw [hbb] at B0
  have hbl := B0.lt
  have HBB := Lib.hid hbb
  clear hw1
  rw [hbb]
  clear hbb
  have x0 := B0.cell' (i := 0) (v := .slice p1 must.length c1) (by rfl)
  go_wp2_with fail
  refine (sh_is S1 S2 _ _ must zs w1 H1.out H2.out hl (by omega) _ rfl).mono ?_
  rintro e w2 ⟨rfl, C2⟩
  rw [HP.out]
  have CC := A0.then0 C2
  have y0 := C2.cell x0 id
  have B2 := C2.blk0 B0
  have HB2 := Lib.hid B2
  have S2' := Lib.hid ((H2.out.chg0 C2).mono (S' := fun k => S2 k ∨ bb ≤ k) fun k hk => .inl hk)
  have hz2 := C2.size
  clear x0 B0 B2
  cases hp : p zs with
  | false =>
    rw [hp, if_neg (by decide)] at hr0
    obtain ⟨rfl, rfl⟩ := Prod.mk.inj hr0
    clear hr0 hp
    go_wp2
    go_ret2
    exact ⟨_, rfl, _, rfl, by rw [HBB.out]; exact S2'.out, CC⟩
  | true =>
    rw [hp, if_pos rfl] at hr0
    obtain ⟨e1, e2⟩ := Prod.mk.inj hr0
    have HE1 := Lib.hid e1
    have HE2 := Lib.hid e2
    clear hr0 hp e1 e2
    go_wp2_with fail
    go_loopg [0, 6, 7] (fuelOf zs) (fun r q as_ n_ wr => ∃ (l : List Int) (n c : Nat), n_ = .int .i64 n ∧ 2 ≤ n ∧ n ≤ 400 ∧ l.length ≤ 200 ∧ l.length * 1000 + (1000 - n) ≤ r ∧ c + r * 200 ≤ 40200000 ∧ Sl wr (fun k => S2 k ∨ bb ≤ k) 1 q l.length (ints l) ∧
      as_ = .int .i64 (1 + c : Nat) ∧ Chg NoB w2 wr ∧ out = (stepsF p r l n).1 ∧ cnt = 1 + c + (stepsF p r l n).2)
    case atStart => exact ⟨zs, 2, 0, rfl, by omega, by omega, hl2, by unfold fuelOf; omega, by unfold fuelOf; omega, S2'.out, rfl, Chg.refl _ _, HE1.out.symm, by rw [← HE2.out]⟩
    case round =>
      obtain ⟨l, n, c, rfl, n2, n4, hll, hfu, hcc, hS, rfl, hC, ho, hcn⟩ := hrel
      have HFU := Lib.hid hfu
      have HCC := Lib.hid hcc
      have HS := Lib.hid hS
      have HOU := Lib.hid ho
      have HCN := Lib.hid hcn
      obtain ⟨r, rfl⟩ : ∃ r, gk = r + 1 := ⟨gk - 1, by omega⟩
      have hzr := hC.size
      have z0 := hC.cell y0 id
      have zl := (hC.blk0 HB2.out).lt
      obtain ⟨pv, cv, rfl⟩ : ∃ p c, u0 = .slice p l.length c := by obtain ⟨-, p, c, e, -⟩ := hS; exact ⟨p, c, e⟩
      have hcb : c ≤ 40200000 := by omega
      clear hfu hcc hS ho hcn HE1 HE2
      by_cases h0 : l.length = 0
      · have hd : decide (0 < l.length) = false := by simp [h0]
        have H0 := Lib.hid h0
        clear h0
        go_wp2
        go_ret2
        have e : stepsF p (r + 1) l n = (l, 0) := by unfold stepsF; rw [if_pos H0.out]
        have h1 := HOU.out
        have h2 := HCN.out
        rw [e] at h1 h2
        subst h1
        have h2 : cnt = 1 + c := h2
        subst h2
        exact ⟨_, rfl, _, rfl, by rw [HBB.out]; exact HS.out, CC.then0 hC⟩
      · have hd : decide (0 < l.length) = true := by simp; omega
        have hl0 : 0 < l.length := by omega
        have H0 := Lib.hid h0
        clear h0
        obtain ⟨⟨res, k⟩, hres⟩ : ∃ x, lessF p l (partsOf l.length (min n l.length)) 0 = x := ⟨_, rfl⟩
        have HRES := Lib.hid hres
        obtain ⟨kn, hkn⟩ : ∃ kn, min n l.length = kn := ⟨_, rfl⟩
        have hknl : kn ≤ l.length := by omega
        have hkn0 : 0 < kn := by omega
        have hkz : (kn : Int) = min (max (n : Int) 1) l.length := by omega
        have HKZ := Lib.hid hkz
        rw [hkn] at hres
        have HRE0 := Lib.hid hres
        have hk : k ≤ 200 := by
          have := lessF_count p l (partsOf l.length kn) 0
          rw [hres, partsOf_len] at this
          simp only at this
          omega
        clear hres hkn hkz
        go_wp2_with fail
        refine (sh_parts wr l.length kn n (by omega) HKZ.out).mono ?_
        rintro e w3 ⟨q3, rfl, O3, C3⟩
        obtain ⟨g3, off3, cap3, rfl, hcell3⟩ : ∃ g off cap, q3 = .slice (some ⟨g, off, none⟩) kn cap ∧ ∀ j u, (ints (nats (partsOf l.length kn)))[j]? = some u → w3.cell? ⟨g, off + j, none⟩ = some u := by
          obtain ⟨-, p, c, e, hn, h2⟩ := O3.sl
          obtain ⟨g, off, rfl, h3, h4, h5⟩ := h2 hkn0
          exact ⟨g, off, c, e, fun j u hu => h5 j u hu⟩
        have HC3 := Lib.hid hcell3
        have z0 := C3.cell z0 id
        have zl := Nat.lt_of_lt_of_le zl C3.size
        have hz3 := C3.size
        have HS3 := Lib.hid (HS.out.chg0 C3)
        clear hcell3 O3
        go_upto_block 2 with fail
        go_cut [0, 6, 9] (fun s0 s6 s9 wx => RefCut w2 wr wx (.slice pv l.length cv) s0 s9 res ∧ s6 = .int .i64 (1 + c + k : Nat) ∧ Chg NoB wr wx)
        case first =>
          go_wp2_with fail
          go_loopg [0, 6, 8, 9, 27] kn (fun rm s0 as_ at_ s9 ix wx => ∃ i c' : Nat, i + rm = kn ∧ s0 = .slice pv l.length cv ∧ s9 = .bool false ∧ ix = .int .i64 i ∧ at_ = .int .i64 (partOff l.length kn i : Nat) ∧ as_ = .int .i64 (1 + c + i : Nat) ∧ lessF p l ((partsOf l.length kn).drop i) (partOff l.length kn i) = (res, c') ∧ i + c' = k ∧ Chg NoB w3 wx)
          case atStart => exact ⟨0, k, by omega, rfl, rfl, rfl, by rw [partOff_zero]; rfl, rfl, by rw [partOff_zero, List.drop_zero]; exact HRE0.out, by omega, Chg.refl _ _⟩
          case round =>
            obtain ⟨i, c', hi, rfl, rfl, rfl, rfl, rfl, hre, hic, C4⟩ := hrel
            have HI := Lib.hid hi
            have hik : i ≤ kn := by omega
            have HRE := Lib.hid hre
            have HIC := Lib.hid hic
            have hick : i ≤ k := by omega
            have hz4 := C4.size
            clear hi hre hic
            by_cases hlt : i < kn
            · have hle := partLen_le l.length kn i hlt
              have hsuc := partOff_succ l.length kn i
              have hpos := partLen_pos l.length kn i hknl hkn0
              have hdrop := partsOf_drop l.length kn i hlt
              have hx := C4.cell (HC3.out i _ (ints_at (show (nats (partsOf l.length kn))[i]? = some ((partLen l.length kn i : Nat) : Int) by simp [nats, partsOf_get _ _ _ hlt]))) id
              generalize partOff l.length kn i = a at *
              generalize partLen l.length kn i = s at *
              have HSU := Lib.hid hsuc
              have HDR := Lib.hid hdrop
              have l0 : (0 : Int) ≤ i := by omega
              have l1 : (i : Int) < kn := by omega
              have t0 := C4.cell z0 id
              have tl := Nat.lt_of_lt_of_le zl hz4
              clear hsuc hdrop z0 zl
              go_wp2_with fail
              refine (sh_without _ _ l _ a s (HS3.out.chg0 C4) (by omega) (by omega) (by omega) (by omega) (by omega)).mono ?_
              rintro e w5 ⟨q5, rfl, O5, C5⟩
              have hwo : woF l a s = without l a s := by unfold woF; rw [if_neg (by omega)]; simp
              rw [hwo] at O5
              have hwl := without_len l a s hle
              have HWL := Lib.hid hwl
              have t1 := C5.cell t0 id
              have tl1 := Nat.lt_of_lt_of_le tl C5.size
              clear hwo hwl t0 tl hx
              go_wp2_with fail
              refine (sh_is S1 _ _ q5 must (without l a s) _ (((H1.out.chg0 C2).chg0 hC).chg0 C3 |>.chg0 C4 |>.chg0 C5) O5.sl hl (by have := HWL.out; omega) _ rfl).mono ?_
              rintro e w6 ⟨rfl, C6⟩
              rw [HP.out]
              have hre2 := HRE.out
              rw [HDR.out] at hre2
              unfold lessF at hre2
              have CX : Chg NoB w3 w6 := (C4.step C5).step C6
              have O6 := Lib.hid (O5.chg0 C6)
              have hz5 := C5.size
              clear t1 tl1 O5
              cases hpp : p (without l a s) with
              | true =>
                rw [hpp, if_pos rfl] at hre2
                obtain ⟨rfl, rfl⟩ := Prod.mk.inj hre2
                clear hre2 hpp
                go_wp2_with fail
                go_meet
                have hk1 := HIC.out
                exact ⟨⟨rfl, O6.out.mono fun j hj => by omega⟩, by rw [← hk1]; go_num, C3.step CX⟩
              | false =>
                rw [hpp, if_neg (by decide)] at hre2
                obtain ⟨rfl, rfl⟩ := Prod.mk.inj hre2
                clear hre2 hpp
                go_wp2_with fail
                go_roundg (kn - (i + 1))
                case measure => have := HI.out; omega
                case rel => exact ⟨i + 1, _, by omega, rfl, rfl, by go_num, by rw [HSU.out]; go_num, by go_num, by rw [HSU.out], by have := HIC.out; omega, CX⟩
            · obtain rfl : i = kn := by have := HI.out; omega
              have hre2 := HRE.out
              rw [List.drop_of_length_le (by rw [partsOf_len]; omega)] at hre2
              unfold lessF at hre2
              obtain ⟨rfl, rfl⟩ := Prod.mk.inj hre2
              clear hre2
              have hk1 := HIC.out
              go_wp2_with fail
              go_meet
              exact ⟨⟨rfl, rfl⟩, by rw [← hk1]; go_num, C3.step C4⟩
        case rest =>
          obtain ⟨hRC, rfl, CW⟩ := hcut
          have e := HOU.out
          have e2 := HCN.out
          unfold stepsF at e e2
          rw [if_neg H0.out, HRES.out] at e e2
          have hzw := CW.size
          cases res with
          | some ws =>
            obtain ⟨rfl, O4⟩ := hRC
            have hs := lessF_some' p l n (by omega) hl0 HRES.out
            have hwl := hs.2.1
            have HE := Lib.hid e
            have HE2 := Lib.hid e2
            have HO4 := Lib.hid O4
            clear e e2 hs O4 HOU HCN
            by_cases hn3 : n = 2
            · subst hn3
              go_wp2_with fail
              go_roundg r
              case measure => omega
              case rel => exact ⟨ws, 2, c + k, rfl, by omega, by omega, by omega, by have := HFU.out; omega, by have := HCC.out; omega, HO4.out.sl.mono fun j hj => .inr (by omega), by first | rfl | go_num, hC.step CW, HE.out, by have h2 : cnt = 1 + c + (k + (stepsF p r ws 2).2) := HE2.out; omega⟩
            · have hmx : max (n - 1) 2 = n - 1 := by omega
              have HMX := Lib.hid hmx
              obtain ⟨n', rfl⟩ : ∃ n', n = n' + 1 := ⟨n - 1, by omega⟩
              have hn' : 2 ≤ n' := by omega
              clear hmx hn3
              have h2 := HE2.out
              have h1 := HE.out
              rw [HMX.out, Nat.add_sub_cancel] at h1 h2
              have H1' := Lib.hid h1
              have H2' := Lib.hid h2
              clear h1 h2 HE HE2 HMX
              go_wp2_with fail
              all_goals
               go_roundg r
               case measure => omega
               case rel => exact ⟨ws, n', c + k, by first | rfl | (have e : n' = 2 := by omega
                                                                   rw [e]; rfl), by omega, by omega, by omega, by have := HFU.out; omega, by have := HCC.out; omega, HO4.out.sl.mono fun j hj => .inr (by omega), by first | rfl | go_num, hC.step CW, H1'.out, by have := H2'.out; omega⟩
          | none =>
            obtain ⟨rfl, rfl⟩ := hRC
            have HE := Lib.hid e
            have HE2 := Lib.hid e2
            clear e e2 HOU HCN
            by_cases hln : l.length ≤ n
            · have hd3 : decide (l.length ≤ n) = true := by simp; omega
              have h1 := HE.out
              have h2 := HE2.out
              simp only [if_pos hln] at h1 h2
              have HA := Lib.hid h1
              have HA2 := Lib.hid h2
              clear h1 h2 HE HE2 hln
              go_wp2_with fail
              go_ret2
              have h1 : out = l := HA.out
              have h2 : cnt = 1 + c + k := HA2.out
              subst h1 h2
              exact ⟨_, rfl, _, rfl, by rw [HBB.out]; exact HS.out.chg0 CW, CC.then0 (hC.step CW)⟩
            · have hd3 : decide (l.length ≤ n) = false := by simp; omega
              have h1 := HE.out
              have h2 := HE2.out
              simp only [if_neg hln] at h1 h2
              have fin : ∀ n2 : Nat, min (2 * n) l.length = n2 → (n2 ≤ 400 ∧ 2 ≤ n2) ∧ l.length * 1000 + (1000 - n2) ≤ r ∧ out = (stepsF p r l n2).1 ∧ cnt = 1 + (c + k) + (stepsF p r l n2).2 := by
                intro n2 hn2
                rw [hn2] at h1 h2
                exact ⟨by omega, by have := HFU.out; omega, h1, by omega⟩
              have HA := Lib.hid fin
              clear h1 h2 HE HE2 fin
              by_cases h2n : 2 * n ≤ l.length
              · obtain ⟨f1, f2, f3, f4⟩ := HA.out (2 * n) (by omega)
                have F3 := Lib.hid f3
                have F4 := Lib.hid f4
                clear HA hln f3 f4
                go_wp2_with fail
                all_goals
                  go_roundg r
                  case measure => omega
                  case rel => exact ⟨l, 2 * n, c + k, by first | rfl | go_num | (congr 1; omega), by omega, by omega, by omega, by omega, by have := HCC.out; omega, HS.out.chg0 CW, by first | rfl | go_num, hC.step CW, F3.out, F4.out⟩
              · obtain ⟨f1, f2, f3, f4⟩ := HA.out l.length (by omega)
                have F3 := Lib.hid f3
                have F4 := Lib.hid f4
                clear HA hln f3 f4
                go_wp2_with fail
                all_goals
                  go_roundg r
                  case measure => omega
                  case rel => exact ⟨l, l.length, c + k, by first | rfl | go_num | (congr 1; omega), by omega, by omega, by omega, by omega, by have := HCC.out; omega, HS.out.chg0 CW, by first | rfl | go_num, hC.step CW, F3.out, F4.out⟩
end Go.Proofs.Ytokigldggkkbcaa
