/- Shrinking: Steps and Shrink: what is left, and how often it is asked. -/
import Derived.Test.YtokigldggkkbcaaShrinkLess
set_option linter.unusedVariables false
namespace Go.Proofs.Ytokigldggkkbcaa
open Go.RowKit Go.RR

set_option maxHeartbeats 2000000 in
set_option maxRecDepth 100000 in
theorem n_steps {g : Nat} {fst lb : Array Value} {p : List Int → Bool} {B : Nat} {S Sl' : Nat → Prop} {I : Nat → World → Prop} (w : World) (h : Asks g fst lb 3 (Value.int .i64) p B w.heap.size S I) (m : Nat) (v : Value) (zs : List Int) (out : List Int) (cnt : Nat)
    (hI : I m w) (hz : zs.length ≤ 200) (hm : m + 50000000 ≤ B) (hs : Sl w Sl' 1 v zs.length (zs.map (Value.int .i64))) (hr : shrinkF p zs = (out, cnt)) :
    Calls Try.prog 46 #[v, .func (.func g) fst lb] w (RetV fun r w' => ∃ q, r = .tuple #[q, .int .i64 cnt] ∧ Own w' (fun k => w.heap.size ≤ k) 3 1 q out.length (out.map (Value.int .i64)) ∧ I (m + cnt) w' ∧ Chg S w w') := by
  have HCL := Lib.hid (n_clone Sl' v zs.length _ w hs (by simp [Value.oneCell']) (by omega) (by unfold maxLen; omega))
  have HR := Lib.hid hr
  obtain ⟨H, hH⟩ : ∃ H, w.heap.size = H := ⟨_, rfl⟩
  have HH := Lib.hid hH
  have hfn := fun w' => run_eql_func_nil (P := Try.prog) w' 74 (.func g) fst lb _ Try.underlying74 rfl
  clear hs hr
  go_enter Try.func46, Try.ntmps46
  go_wp2_with fail
  refine HCL.out.mono ?_
  rintro e w1 ⟨q1, rfl, O1, C1⟩
  obtain ⟨p1, c1, rfl⟩ : ∃ p c, q1 = .slice p zs.length c := by obtain ⟨-, p, c, e, -⟩ := O1.sl; exact ⟨p, c, e⟩
  rw [hH] at O1 h
  clear HCL
  go_wp2_with fail
  have A1 := (Chg.refl NoB w1).alloc (.cells #[.func (.func g) fst lb, .int .i64 0] 126)
  have hz1 := C1.size
  have B2 : Blk (w1.alloc (.cells #[.func (.func g) fst lb, .int .i64 0] 126)) w1.heap.size #[.func (.func g) fst lb, .int .i64 (0 : Nat)] 126 := Blk.new _ _ _
  have O2 := (O1.monoIn (S' := fun k => H ≤ k ∧ k ≠ w1.heap.size) fun k hk h => ⟨h, by omega⟩).chg0 A1
  have hI2 := h.keep m w _ hI (by omega) ((C1.then0 A1).mono fun _ _ h => h.elim)
  have HO2 := Lib.hid O2
  have hsz : w1.heap.size < (w1.alloc (.cells #[.func (.func g) fst lb, .int .i64 0] 126)).heap.size := by simp
  obtain ⟨ba, hba⟩ : ∃ ba, w1.heap.size = ba := ⟨_, rfl⟩
  have hbaH : H ≤ ba := by omega
  generalize hw2 : w1.alloc (.cells #[.func (.func g) fst lb, .int .i64 0] 126) = w2 at *
  have HC2 := Lib.hid ((C1.then0 A1))
  rw [hba] at *
  clear hw2 O1 A1 O2 hba C1
  refine (n_ask h w2 ba 0 m (.slice p1 zs.length c1) zs B2 hbaH hI2 (by omega) hz (by omega) (by omega) HO2.out.sl (fun k hk => hk.2)).mono ?_
  rintro e w3 ⟨rfl, B3, I3, C3⟩
  have HI3 := Lib.hid I3
  have HB3 := Lib.hid B3
  have hr0 := HR.out
  unfold shrinkF at hr0
  have O3 := HO2.out.chg C3 (fun k hk e => e.elim (fun e => by have := h.old _ e; omega) (fun e => hk.2 e))
  have HO3 := Lib.hid O3
  have CC3 : Chg S w w3 := (HC2.out.mono (S' := S) fun _ _ h => h.elim).trans C3 fun k hk e => e.elim id (fun e => by have := HH.out; omega)
  clear I3 B3 B2 hI2 HO2 hI O3
  cases hp : p zs with
  | false =>
    rw [hp, if_neg (by decide)] at hr0
    obtain ⟨rfl, rfl⟩ := Prod.mk.inj hr0
    clear hr0 hp
    have x1 : w3.cell? ⟨ba, 1, none⟩ = some (.int .i64 ((0 + 1 : Nat) : Int)) := HB3.out.cell' (i := 1) (by rfl)
    have x2 := HB3.out.lt
    go_wp2_with fail
    go_quiet (fail)
    go_wp2
    go_ret2
    have CD := (Chg.refl NoB w3).drewN nq
    refine ⟨_, rfl, _, rfl, (HO3.out.chg0 CD).mono fun k hk => by have := HH.out; omega, h.keep _ _ _ HI3.out (by have := CC3.size; omega) (CD.mono fun _ _ h => h.elim), CC3.then0 CD⟩
  | true =>
    rw [hp, if_pos rfl] at hr0
    obtain ⟨h1, h2⟩ := Prod.mk.inj hr0
    have H1 := Lib.hid h1
    have H2 := Lib.hid h2
    clear hr0 hp h1 h2
    go_wp2_with fail
    go_loopg [6, 8] (fuelOf zs) (fun r q n_ wr => ∃ (l : List Int) (n c : Nat), n_ = .int .i64 n ∧ 2 ≤ n ∧ n ≤ 400 ∧ l.length ≤ 200 ∧ l.length * 1000 + (1000 - n) ≤ r ∧ c + r * 200 ≤ 40200000 ∧ Own wr (fun k => H ≤ k ∧ k ≠ ba) 3 1 q l.length (l.map (Value.int .i64)) ∧
      Blk wr ba #[.func (.func g) fst lb, .int .i64 (1 + c : Nat)] 126 ∧ I (m + (1 + c)) wr ∧ Chg S w wr ∧ out = (stepsF p r l n).1 ∧ cnt = 1 + c + (stepsF p r l n).2)
    case atStart => exact ⟨zs, 2, 0, rfl, by omega, by omega, hz, by unfold fuelOf; omega, by unfold fuelOf; omega, HO3.out, HB3.out, HI3.out, CC3, H1.out.symm, by rw [← H2.out]⟩
    case round =>
      obtain ⟨l, n, c, rfl, n2, n4, hl, hfu, hcc, hO, hB, hI, hC, ho, hcn⟩ := hrel
      clear HI3 HB3 HO3 CC3 C3 H1 H2 HR
      have HFU := Lib.hid hfu
      have HCC := Lib.hid hcc
      have HO := Lib.hid hO
      have HB := Lib.hid hB
      have HOU := Lib.hid ho
      have HCN := Lib.hid hcn
      obtain ⟨r, rfl⟩ : ∃ r, gk = r + 1 := ⟨gk - 1, by omega⟩
      have hzr := hC.size
      have x2 := hB.lt
      obtain ⟨pv, cv, rfl⟩ : ∃ p c, u6 = .slice p l.length c := by obtain ⟨-, p, c, e, -⟩ := hO.sl; exact ⟨p, c, e⟩
      have x1 : wr.cell? ⟨ba, 1, none⟩ = some (.int .i64 ((1 + c : Nat) : Int)) := hB.cell' (i := 1) (by rfl)
      clear hfu hcc hO hB ho hcn
      by_cases h0 : l.length = 0
      · have hd : decide (0 < l.length) = false := by simp [h0]
        have H0 := Lib.hid h0
        clear h0
        go_wp2_with fail
        go_quiet (fail)
        go_wp2
        go_ret2
        have CD := (Chg.refl NoB wr).drewN nq
        have e : stepsF p (r + 1) l n = (l, 0) := by unfold stepsF; rw [if_pos H0.out]
        have h1 := HOU.out
        have h2 := HCN.out
        rw [e] at h1 h2
        subst h1
        have h2 : cnt = 1 + c := h2
        subst h2
        exact ⟨_, rfl, _, rfl, (HO.out.chg0 CD).mono fun k hk => by have := HH.out; omega, h.keep _ _ _ hI (by omega) (CD.mono fun _ _ h => h.elim), hC.then0 CD⟩
      · have hd : decide (0 < l.length) = true := by simp; omega
        have hl0 : 0 < l.length := by omega
        have H0 := Lib.hid h0
        clear h0
        obtain ⟨⟨res, k⟩, hres⟩ : ∃ x, lessF p l (partsOf l.length (min n l.length)) 0 = x := ⟨_, rfl⟩
        have hk : k ≤ 200 := by
          have := lessF_count p l (partsOf l.length (min n l.length)) 0
          rw [hres, partsOf_len] at this
          simp only at this
          omega
        have HRES := Lib.hid hres
        have HLE := Lib.hid (n_less h wr ba (1 + c) (m + (1 + c)) (.slice pv l.length cv) l n res k HB.out hbaH hI (by omega) hl hl0 (by omega) (by omega) (by have := HCC.out; omega) (by have := HCC.out; omega) HO.out.sl (fun j hj => ⟨hj.2, fun e => by have := h.old _ e; omega⟩) hres)
        clear hres x1
        go_wp2_with fail
        refine HLE.out.mono ?_
        rintro e w4 ⟨_, rfl, q4, ok, rfl, hLR, B4, I4, C4⟩
        have CC4 : Chg S w w4 := hC.trans C4 fun k hk e => e.elim id (fun e => by have := HH.out; omega)
        have e := HOU.out
        have e2 := HCN.out
        unfold stepsF at e e2
        rw [if_neg H0.out, HRES.out] at e e2
        have HI4 := Lib.hid I4
        have HB4 := Lib.hid B4
        have x2 := B4.lt
        have x1 : w4.cell? ⟨ba, 1, none⟩ = some (.int .i64 ((1 + c + k : Nat) : Int)) := B4.cell' (i := 1) (by rfl)
        clear I4 B4 HLE hI
        cases res with
        | some ws =>
          obtain ⟨rfl, O4⟩ := hLR
          have hs := lessF_some' p l n (by omega) hl0 HRES.out
          have hwl := hs.2.1
          have HE := Lib.hid e
          have HE2 := Lib.hid e2
          have HO4 := Lib.hid O4
          clear e e2 hs O4 x1
          by_cases hn3 : n = 2
          · subst hn3
            go_wp2_with fail
            go_roundg r
            case measure => omega
            case rel => exact ⟨ws, 2, c + k, rfl, by omega, by omega, by omega, by have := HFU.out; omega, by have := HCC.out; omega, HO4.out.mono fun j hj => by omega, by rw [← Nat.add_assoc]; exact HB4.out, by rw [show m + (1 + (c + k)) = m + (1 + c) + k by omega]; exact HI4.out, CC4, HE.out, by have h2 : cnt = 1 + c + (k + (stepsF p r ws 2).2) := HE2.out; omega⟩
          · have hd1 : (2 : Int) < (n : Int) - 1 ∨ (n : Int) - 1 = 2 := by omega
            have hmx : max (n - 1) 2 = n - 1 := by omega
            have HMX := Lib.hid hmx
            obtain ⟨n', rfl⟩ : ∃ n', n = n' + 1 := ⟨n - 1, by omega⟩
            have hn' : 2 ≤ n' := by omega
            clear hd1 hmx hn3
            go_wp2_with fail
            have h2 := HE2.out
            have h1 := HE.out
            rw [HMX.out, Nat.add_sub_cancel] at h1 h2
            have H1 := Lib.hid h1
            have H2 := Lib.hid h2
            clear h1 h2 HE HE2 HMX HOU HCN
            go_roundg r
            case measure => omega
            case rel => exact ⟨ws, n', c + k, rfl, by omega, by omega, by omega, by have := HFU.out; omega, by have := HCC.out; omega, HO4.out.mono fun j hj => by omega, by rw [← Nat.add_assoc]; exact HB4.out, by rw [show m + (1 + (c + k)) = m + (1 + c) + k by omega]; exact HI4.out, CC4, H1.out, by have := H2.out; omega⟩
        | none =>
          obtain ⟨rfl, rfl⟩ := hLR
          have O4 := HO.out.chg C4 (fun j hj e => e.elim (fun e => by have := h.old _ e; omega) (fun e => hj.2 e))
          have HO4 := Lib.hid O4
          have HE := Lib.hid e
          have HE2 := Lib.hid e2
          clear e e2 O4 HO HOU HCN
          by_cases hln : l.length ≤ n
          · have hd2 : decide ((l.length : Int) ≤ (n : Int)) = true := by simp; omega
            have hd3 : decide (l.length ≤ n) = true := by simp; omega
            have h1 := HE.out
            have h2 := HE2.out
            simp only [if_pos hln] at h1 h2
            have HA := Lib.hid h1
            have HA2 := Lib.hid h2
            clear h1 h2 HE HE2 hln
            go_wp2_with fail
            go_quiet (fail)
            go_wp2
            go_ret2
            have CD := (Chg.refl NoB w4).drewN nq
            have h1 : out = l := HA.out
            have h2 : cnt = 1 + c + k := HA2.out
            subst h1 h2
            exact ⟨_, rfl, _, rfl, (HO4.out.chg0 CD).mono fun k hk => by have := HH.out; omega, h.keep _ _ _ (by have := HI4.out; rwa [Nat.add_assoc m] at this) (by have := CC4.size; have := HH.out; omega) (CD.mono fun _ _ h => h.elim), CC4.then0 CD⟩
          · have hd3 : decide (l.length ≤ n) = false := by simp; omega
            have h1 := HE.out
            have h2 := HE2.out
            simp only [if_neg hln] at h1 h2
            have fin : ∀ n2 : Nat, min (2 * n) l.length = n2 → (n2 ≤ 400 ∧ 2 ≤ n2) ∧ l.length * 1000 + (1000 - n2) ≤ r ∧ out = (stepsF p r l n2).1 ∧ cnt = 1 + (c + k) + (stepsF p r l n2).2 := by
              intro n2 hn2
              rw [hn2] at h1 h2
              exact ⟨by omega, by have := HFU.out; omega, h1, by omega⟩
            have HA := Lib.hid fin
            clear h1 h2 HE HE2 fin
            by_cases h2n : 2 * n ≤ l.length
            · obtain ⟨f1, f2, f3, f4⟩ := HA.out (2 * n) (by omega)
              have F3 := Lib.hid f3
              have F4 := Lib.hid f4
              clear HA hln f3 f4
              go_wp2_with fail
              all_goals
                go_roundg r
                case measure => omega
                case rel => exact ⟨l, 2 * n, c + k, by first | go_num | (congr 1; omega), by omega, by omega, by omega, by omega, by have := HCC.out; omega, HO4.out, by rw [← Nat.add_assoc]; exact HB4.out, by rw [show m + (1 + (c + k)) = m + (1 + c) + k by omega]; exact HI4.out, CC4, F3.out, F4.out⟩
            · obtain ⟨f1, f2, f3, f4⟩ := HA.out l.length (by omega)
              have F3 := Lib.hid f3
              have F4 := Lib.hid f4
              clear HA hln f3 f4
              go_wp2_with fail
              all_goals
                go_roundg r
                case measure => omega
                case rel => exact ⟨l, l.length, c + k, by first | rfl | go_num | (congr 1; omega), by omega, by omega, by omega, by omega, by have := HCC.out; omega, HO4.out, by rw [← Nat.add_assoc]; exact HB4.out, by rw [show m + (1 + (c + k)) = m + (1 + c) + k by omega]; exact HI4.out, CC4, F3.out, F4.out⟩
end Go.Proofs.Ytokigldggkkbcaa
