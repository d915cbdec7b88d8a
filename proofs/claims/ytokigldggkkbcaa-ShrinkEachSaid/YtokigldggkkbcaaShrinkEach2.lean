/- Each, with the law's functions and with none; the law. -/
import Derived.Test.YtokigldggkkbcaaShrinkEach
set_option linter.unusedVariables false
namespace Go.Proofs.Ytokigldggkkbcaa
open Go.RowKit Go.RR

/-- Each thing of l is at most the one of zs. -/
def Under (l zs : List Int) : Prop := l.length = zs.length ∧ ∀ (i : Nat) (y : Int), l[i]? = some y → 0 ≤ y ∧ y ≤ 255 ∧ ∃ z, zs[i]? = some z ∧ y ≤ z
theorem Under.set {l zs : List Int} {i : Nat} {y x : Int} (h : Under l zs) (hy : l[i]? = some y) (hx : 0 ≤ x) (hxy : x < y) : Under (l.set i x) zs := by
  refine ⟨by rw [List.length_set]; exact h.1, fun k v hk => ?_⟩
  by_cases hki : i = k
  · subst hki
    have hl := (List.getElem?_eq_some_iff.1 hy).1
    rw [List.getElem?_set_self hl] at hk
    cases hk
    obtain ⟨h1, h2, z, h3, h4⟩ := h.2 i y hy
    exact ⟨hx, by omega, z, h3, by omega⟩
  · rw [List.getElem?_set_ne hki] at hk
    exact h.2 k v hk
def EachRes (s : Int) (zs l : List Int) : Prop :=
  Under l zs ∧ ((badE s zs = false ∧ l = zs) ∨ (badE s zs = true ∧ badE s l = true ∧ ((tot l : Int) = s ∨ ∀ (i : Nat) (y : Int), l[i]? = some y → y = 0)))
theorem each_at {s : Int} {l : List Int} {i : Nat} {y : Int} (hy : l[i]? = some y) (hb : 0 ≤ y ∧ y ≤ 255) (hp : badE s l = true) (hno : ∀ x ∈ lessOf y, badE s (l.set i x) = false) : y = 0 ∨ (tot l : Int) = s := by
  by_cases h0 : y = 0
  · exact .inl h0
  · right
    have h1 := hno (y - 1) (by unfold lessOf; rw [if_neg h0]; simp)
    have h2 := tot_set l i y (y - 1) hy
    unfold badE at hp h1
    simp only [decide_eq_true_eq, decide_eq_false_iff_not] at hp h1
    omega
theorem each_keep {s : Int} {l : List Int} {i : Nat} {y x : Int} (hy : l[i]? = some y) (hb : 0 ≤ y ∧ y ≤ 255) (hx : 0 ≤ x) (hxy : x < y) (hp : badE s (l.set i x) = true) (ht : (tot l : Int) = s) : False := by
  have h2 := tot_set l i y x hy
  unfold badE at hp
  simp only [decide_eq_true_eq] at hp
  omega


set_option maxRecDepth 100000 in
theorem each_nil1 (S : Nat → Prop) (w : World) (v : Value) (g : Nat) (fst lb : Array Value) (zs : List Int) (hs : Sl w S 1 v zs.length (u8s zs)) (hz : zs.length ≤ 200) :
    Calls Try.prog 66 #[v, .nilFunc, .func (.func g) fst lb] w (RetV fun q w' => Own w' (fun k => w.heap.size ≤ k) 5 1 q zs.length (u8s zs) ∧ Chg NoB w w') := by
  have hf1 := fun w' => run_eql_nil_func (P := Try.prog) w' 103 _ Try.underlying103 rfl
  have HCL := Lib.hid (b_clone S v zs.length _ w hs (u8s_one zs) (by omega) (by unfold maxLen; omega))
  clear hs
  go_enter Try.func66, Try.ntmps66
  go_wp2_with fail
  refine HCL.out.mono ?_
  rintro e w1 ⟨q1, rfl, O1, C1⟩
  go_wp2
  go_ret
  exact ⟨_, rfl, O1, C1⟩
set_option maxRecDepth 100000 in
theorem each_nil2 (S : Nat → Prop) (w : World) (v : Value) (g : Nat) (fst lb : Array Value) (zs : List Int) (hs : Sl w S 1 v zs.length (u8s zs)) (hz : zs.length ≤ 200) :
    Calls Try.prog 66 #[v, .func (.func g) fst lb, .nilFunc] w (RetV fun q w' => Own w' (fun k => w.heap.size ≤ k) 5 1 q zs.length (u8s zs) ∧ Chg NoB w w') := by
  have hf1 := fun w' => run_eql_func_nil (P := Try.prog) w' 103 (.func g) fst lb _ Try.underlying103 rfl
  have hf2 := fun w' => run_eql_nil_func (P := Try.prog) w' 86 _ Try.underlying86 rfl
  have HCL := Lib.hid (b_clone S v zs.length _ w hs (u8s_one zs) (by omega) (by unfold maxLen; omega))
  clear hs
  go_enter Try.func66, Try.ntmps66
  go_wp2_with fail
  refine HCL.out.mono ?_
  rintro e w1 ⟨q1, rfl, O1, C1⟩
  go_wp2
  go_ret
  exact ⟨_, rfl, O1, C1⟩

set_option maxHeartbeats 4000000 in
set_option maxRecDepth 100000 in
theorem b_each {g : Nat} {fst lb : Array Value} {B : Nat} {S Sl' : Nat → Prop} {I : Nat → World → Prop} (s : Int) (w : World) (h : Asks g fst lb 5 (fun z => Value.int .u8 (z % 256)) (badE s) B w.heap.size S I) (m : Nat) (v : Value) (zs : List Int) (hI : I m w) (hz : zs.length ≤ 100) (hm : m + 50000000 ≤ B) (hs : Sl w Sl' 1 v zs.length (u8s zs)) (hzb : ∀ (i : Nat) (z : Int), zs[i]? = some z → 0 ≤ z ∧ z ≤ 255) :
    Calls Try.prog 66 #[v, .func (.func 65) #[] #[], .func (.func g) fst lb] w (RetV fun q w' => ∃ l c, EachRes s zs l ∧ Own w' (fun k => w.heap.size ≤ k) 5 1 q zs.length (u8s l) ∧ I (m + c) w' ∧ Chg S w w') := by
  have HCL := Lib.hid (b_clone Sl' v zs.length _ w hs (u8s_one zs) (by omega) (by unfold maxLen; omega))
  have HZB := Lib.hid hzb
  obtain ⟨H, hH⟩ : ∃ H, w.heap.size = H := ⟨_, rfl⟩
  have HH := Lib.hid hH
  have hf1 := fun w' => run_eql_func_nil (P := Try.prog) w' 103 (.func 65) #[] #[] _ Try.underlying103 rfl
  have hf2 := fun w' => run_eql_func_nil (P := Try.prog) w' 86 (.func g) fst lb _ Try.underlying86 rfl
  have hU0 : Under zs zs := ⟨rfl, fun i y hy => ⟨(hzb i y hy).1, (hzb i y hy).2, y, hy, Int.le_refl _⟩⟩
  have HU0 := Lib.hid hU0
  clear hs hzb hU0
  go_enter Try.func66, Try.ntmps66
  go_wp2_with fail
  refine HCL.out.mono ?_
  rintro e w1 ⟨q1, rfl, O1, C1⟩
  obtain ⟨p1, c1, rfl⟩ : ∃ p c, q1 = .slice p zs.length c := by obtain ⟨-, p, c, e, -⟩ := O1.sl; exact ⟨p, c, e⟩
  rw [hH] at O1 h
  clear HCL
  go_wp2_with fail
  have A1 := (Chg.refl NoB w1).alloc (.cells #[.func (.func g) fst lb, .int .i64 0] 141)
  have hz1 := C1.size
  have B2 : Blk (w1.alloc (.cells #[.func (.func g) fst lb, .int .i64 0] 141)) w1.heap.size #[.func (.func g) fst lb, .int .i64 (0 : Nat)] 141 := Blk.new _ _ _
  have O2 := (O1.monoIn (S' := fun k => H ≤ k ∧ k ≠ w1.heap.size) fun k hk h => ⟨h, by omega⟩).chg0 A1
  have hI2 := h.keep m w _ hI (by omega) ((C1.then0 A1).mono fun _ _ h => h.elim)
  have HO2 := Lib.hid O2
  have hsz : w1.heap.size < (w1.alloc (.cells #[.func (.func g) fst lb, .int .i64 0] 141)).heap.size := by simp
  obtain ⟨ba, hba⟩ : ∃ ba, w1.heap.size = ba := ⟨_, rfl⟩
  have hbaH : H ≤ ba := by omega
  generalize hw2 : w1.alloc (.cells #[.func (.func g) fst lb, .int .i64 0] 141) = w2 at *
  have HC2 := Lib.hid ((C1.then0 A1))
  rw [hba] at *
  clear hw2 O1 A1 O2 hba C1 hf1 hf2
  refine (b_ask h w2 ba 0 m (.slice p1 zs.length c1) zs B2 hbaH hI2 (by omega) (by omega) (by omega) (by omega) HO2.out.sl (fun k hk => hk.2)).mono ?_
  rintro e w3 ⟨rfl, B3, I3, C3⟩
  have HI3 := Lib.hid I3
  have HB3 := Lib.hid B3
  have O3 := HO2.out.chg C3 (fun k hk e => e.elim (fun e => by have := h.old _ e; omega) (fun e => hk.2 e))
  have HO3 := Lib.hid O3
  have CC3 : Chg S w w3 := (HC2.out.mono (S' := S) fun _ _ h => h.elim).trans C3 fun k hk e => e.elim id (fun e => by have := HH.out; omega)
  clear I3 B3 B2 hI2 HO2 hI O3
  cases hp : badE s zs with
  | false =>
    have HP := Lib.hid hp
    clear hp
    go_wp2_with fail
    go_ret
    exact ⟨_, rfl, zs, 1, ⟨HU0.out, .inl ⟨HP.out, rfl⟩⟩, HO3.out.mono fun k hk => by have := HH.out; omega, HI3.out, CC3⟩
  | true =>
    have HP := Lib.hid hp
    clear hp
    go_wp2_with fail
    go_loopg [7, 31] zs.length (fun r q ix wr => ∃ (a c : Nat) (l : List Int), a + r = zs.length ∧ ix = .int .i64 a ∧ Under l zs ∧ badE s l = true ∧ (∀ (i : Nat) (y : Int), i < a → l[i]? = some y → y = 0 ∨ (tot l : Int) = s) ∧ c ≤ 1 + a * 3000 ∧ Own wr (fun k => H ≤ k ∧ k ≠ ba) 5 1 q zs.length (u8s l) ∧
      Blk wr ba #[.func (.func g) fst lb, .int .i64 (c : Nat)] 141 ∧ I (m + c) wr ∧ Chg S w wr)
    case atStart => exact ⟨0, 1, zs, by omega, rfl, HU0.out, HP.out, fun i y hi => by omega, by omega, HO3.out, HB3.out, HI3.out, CC3⟩
    case round =>
      obtain ⟨a, c, l, ha, rfl, hU, hp, hdone, hc, hO, hB, hI, hC⟩ := hrel
      clear HI3 HB3 HO3 CC3 C3
      have HA := Lib.hid ha
      have haz : a ≤ zs.length := by omega
      have HU := Lib.hid hU
      have HPL := Lib.hid hp
      have HD := Lib.hid hdone
      have HO := Lib.hid hO
      have HB := Lib.hid hB
      have hc2 : c ≤ 400000 := by omega
      have HCN := Lib.hid hc
      clear ha hU hp hdone hO hB hc
      by_cases hlt : a < zs.length
      · obtain ⟨y0, hy0⟩ : ∃ y, l[a]? = some y := ⟨l[a]'(by have := HU.out.1; omega), List.getElem?_eq_getElem _⟩
        have HY0 := Lib.hid hy0
        have hy0b := HU.out.2 a y0 hy0
        have hy0b1 := hy0b.2.1
        obtain ⟨wq, hwq⟩ : ∃ wq, wq = wr := ⟨_, rfl⟩
        subst hwq
        clear hy0 hy0b
        go_wp2_with fail
        go_loopg [7, 34] 1000 (fun r q jx wr => ∃ (j c : Nat) (l : List Int) (y : Int), j + r = 1000 ∧ jx = .int .i64 j ∧ Under l zs ∧ badE s l = true ∧ l[a]? = some y ∧ y + j ≤ 255 ∧ (∀ (i : Nat) (y : Int), i < a → l[i]? = some y → y = 0 ∨ (tot l : Int) = s) ∧ c ≤ 1 + a * 3000 + 3 * j ∧ Own wr (fun k => H ≤ k ∧ k ≠ ba) 5 1 q zs.length (u8s l) ∧
          Blk wr ba #[.func (.func g) fst lb, .int .i64 (c : Nat)] 141 ∧ I (m + c) wr ∧ Chg S w wr)
        case atStart => exact ⟨0, c, l, y0, by omega, rfl, HU.out, HPL.out, HY0.out, by omega, HD.out, by have := HCN.out; omega, HO.out, HB.out, hI, hC⟩
        case round =>
          obtain ⟨j, c', l', y, hj, rfl, hU', hp', hy, hyj, hd', hc', hO', hB', hI', hC'⟩ := hrel
          clear HU HPL HD HO HB HY0 hI HCN
          have HJ := Lib.hid hj
          have HU' := Lib.hid hU'
          have HP' := Lib.hid hp'
          have HY := Lib.hid hy
          have HD' := Lib.hid hd'
          have HO' := Lib.hid hO'
          have HB' := Lib.hid hB'
          have HC' := Lib.hid hc'
          have hyb := hU'.2 a y hy
          have hjl : j ≤ 255 := by omega
          have hl' := hU'.1
          have HL' := Lib.hid hl'
          have hcb : c' ≤ 400000 := by omega
          have hzr := hC'.size
          have hyb1 : 0 ≤ y ∧ y ≤ 255 := ⟨hyb.1, hyb.2.1⟩
          have HYB := Lib.hid hyb1
          have hOS := hO'.sl
          rw [← hl'] at hOS
          have HLS := Lib.hid (b_lesser h wr ba c' (m + c') u7 l' a y hB' hbaH hI' (by omega) (by omega) (by omega) hy hyb1 (by omega) (by omega) hOS (fun k hk => ⟨hk.2, fun e => by have := h.old _ e; omega⟩))
          clear hj hU' hp' hy hd' hO' hB' hc' hyb hl' hyb1 hOS hI'
          go_wp2_with fail
          refine HLS.out.mono ?_
          rintro e w5 ⟨_, rfl, q5, ok, d, rfl, hR, hd3, B5, I5, C5⟩
          have CC5 : Chg S w w5 := hC'.trans C5 fun k hk e => e.elim id (fun e => by have := HH.out; omega)
          have HB5 := Lib.hid B5
          have HI5 := Lib.hid I5
          clear B5 I5 HLS
          rcases hR with ⟨rfl, x, hx, hpx, O5⟩ | ⟨rfl, rfl, hno⟩
          · have hxb := lessOf_bd HYB.out hx
            rw [HL'.out] at O5
            have HO5 := Lib.hid (O5.mono (S' := fun k => H ≤ k ∧ k ≠ ba) fun k hk => ⟨by omega, by have := HB'.out.lt; omega⟩)
            have HXB := Lib.hid hxb
            have HPX := Lib.hid hpx
            clear hx hxb hpx O5
            go_wp2_with fail
            go_roundg (1000 - (j + 1))
            case measure => have := HJ.out; omega
            case rel =>
              refine ⟨j + 1, c' + d, l'.set a x, x, by omega, by go_num, HU'.out.set HY.out HXB.out.1 HXB.out.2.2, HPX.out, ?_, by have := HXB.out; omega, fun i y2 hi hy2 => ?_, by have := HC'.out; omega, HO5.out, HB5.out, by rw [← Nat.add_assoc]; exact HI5.out, CC5⟩
              · rw [List.getElem?_set_self (by have := HL'.out; omega)]
              · rw [List.getElem?_set_ne (by omega)] at hy2
                rcases HD'.out i y2 hi hy2 with h1 | h1
                · exact .inl h1
                · exact (each_keep HY.out HYB.out HXB.out.1 HXB.out.2.2 HPX.out h1).elim
          · have hdn := each_at HY.out HYB.out HP'.out hno
            have HDN := Lib.hid hdn
            have HO5 := Lib.hid (HO'.out.chg C5 fun k hk e => e.elim (fun e => by have := h.old _ e; omega) (fun e => hk.2 e))
            clear hdn hno
            go_wp2_with fail
            go_roundg (zs.length - (a + 1))
            case measure => have := HA.out; omega
            case rel =>
              refine ⟨a + 1, c' + d, l', by omega, by go_num, HU'.out, HP'.out, fun i y2 hi hy2 => ?_, by have := HC'.out; omega, HO5.out, HB5.out, by rw [← Nat.add_assoc]; exact HI5.out, CC5⟩
              rcases Nat.lt_or_ge i a with h1 | h1
              · exact HD'.out i y2 h1 hy2
              · obtain rfl : i = a := by omega
                rw [HY.out] at hy2
                cases hy2
                exact HDN.out
      · obtain rfl : a = zs.length := by have := HA.out; omega
        go_wp2
        go_ret
        refine ⟨_, rfl, l, c, ⟨HU.out, .inr ⟨HP.out, HPL.out, ?_⟩⟩, HO.out.mono fun k hk => by have := HH.out; omega, hI, hC⟩
        by_cases ht : (tot l : Int) = s
        · exact .inl ht
        · exact .inr fun i y hy => (HD.out i y (by have := (List.getElem?_eq_some_iff.1 hy).1; have := HU.out.1; omega) hy).resolve_right ht
end Go.Proofs.Ytokigldggkkbcaa
