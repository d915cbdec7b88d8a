/- The audit: what is found of a cluster. No condition. The audit: what is found of no cluster; what must be answered first; AuditNil. No condition. -/
import Derived.Test.YtleilfkcjollaaaGreatHk
set_option linter.unusedVariables false
set_option linter.unusedSimpArgs false
namespace Go.Proofs.YtleilfkcjollaaaGreat
open Go.RowKit Go.RR
/-- Which fault there is of a page: 1 exclusive, 2 members, 3 equal; 0: none. -/
def ftN (s : Nat → Spc) (n p : Nat) : Nat := if exB s n p then (if mB s n p then (if eqB s n p then 0 else 3) else 2) else 1
def ftS : Nat → ByteArray
  | 0 => ⟨#[]⟩
  | 1 => ⟨#[101, 120, 99, 108, 117, 115, 105, 118, 101]⟩
  | 2 => ⟨#[109, 101, 109, 98, 101, 114, 115]⟩
  | _ => ⟨#[101, 113, 117, 97, 108]⟩
theorem ftN_lt (s : Nat → Spc) (n p : Nat) : ftN s n p < 4 := by unfold ftN; split <;> (try split) <;> (try split) <;> omega
set_option maxHeartbeats 2000000 in
set_option maxRecDepth 100000 in
theorem fault_any {w : World} {F : Nat → Nat → Prop} {P : Cpl} {n : Nat} {s : Nat → Spc} (h : CL w F P n n s) (p : Nat) (hp : p < 2) (hn : 2 ≤ n) (hn2 : n ≤ 16) :
    Calls Tryz.prog 25 #[.pointer (some ⟨P.cb, 0, none⟩), .int .i64 p] w (RetW (.string (ftS (ftN s n p))) fun w' => CL.Then w F P n n s w') := by
  have HO := Lib.hid (owners_any h p hp hn hn2)
  have HE := Lib.hid fun w' F' (h' : CL w' F' P n n s) => exclusive_any h' p hp hn hn2
  have HM := Lib.hid fun w' F' (h' : CL w' F' P n n s) => members_any h' p hp hn hn2
  have HQ := Lib.hid fun w' F' (h' : CL w' F' P n n s) => equal_any h' p hp hn hn2
  have HX := Lib.hid (CLx.refl h)
  have HF : Hid (ftN s n p = if exB s n p then (if mB s n p then (if eqB s n p then 0 else 3) else 2) else 1) := Lib.hid rfl
  generalize exB s n p = b1 at *
  generalize mB s n p = b2 at *
  generalize eqB s n p = b3 at *
  rw [HF.out]
  clear h hp hn HF
  go_enter Tryz.func25, Tryz.ntmps25
  go_wp2_with fail
  with_reducible refine HO.out.mono ?_
  rintro e w1 ⟨rfl, hT⟩
  obtain ⟨F1, H1⟩ := HX.out.next hT
  have H1 := Lib.hid H1
  have HE1 := Lib.hid (HE.out _ _ H1.out.cl)
  clear hT HO HX
  go_wp2_with fail
  with_reducible refine HE1.out.mono ?_
  rintro e w2 ⟨rfl, C2⟩
  have H2 := Lib.hid (H1.out.chg0 C2)
  have HM2 := Lib.hid (HM.out _ _ H2.out.cl)
  clear C2
  cases b1
  · go_wp2_with fail
    go_ret
    exact ⟨rfl, H2.out.done⟩
  go_wp2_with fail
  with_reducible refine HM2.out.mono ?_
  rintro e w3 ⟨rfl, hT⟩
  obtain ⟨F3, H3⟩ := H2.out.next hT
  have H3 := Lib.hid H3
  have HQ3 := Lib.hid (HQ.out _ _ H3.out.cl)
  clear hT
  cases b2
  · go_wp2_with fail
    go_ret
    exact ⟨rfl, H3.out.done⟩
  go_wp2_with fail
  with_reducible refine HQ3.out.mono ?_
  rintro e w4 ⟨rfl, hT⟩
  obtain ⟨F4, H4⟩ := H3.out.next hT
  have H4 := Lib.hid H4
  clear hT
  cases b3
  · go_wp2_with fail
    go_ret
    exact ⟨rfl, H4.out.done⟩
  · go_wp2_with fail
    go_ret
    exact ⟨rfl, H4.out.done⟩
def ckV (s : Nat → Spc) (n : Nat) : Value :=
  if ftN s n 0 = 0 then (if ftN s n 1 = 0 then .tuple #[.int .i64 (-1), .string ⟨#[]⟩] else .tuple #[.int .i64 1, .string (ftS (ftN s n 1))]) else .tuple #[.int .i64 0, .string (ftS (ftN s n 0))]
set_option maxHeartbeats 2000000 in
set_option maxRecDepth 100000 in
theorem aCheck_any {w : World} {F : Nat → Nat → Prop} {P : Cpl} {n : Nat} {s : Nat → Spc} (h : CL w F P n n s) (hn : 2 ≤ n) (hn2 : n ≤ 16) :
    Calls Tryz.prog 8 #[.pointer (some ⟨P.cb, 0, none⟩), .agg (confC n 2)] w (RetW (ckV s n) fun w' => CL.Then w F P n n s w') := by
  have HB := Lib.hid (Blk.new w (confC n 2) 28)
  have c01 := (Chg.refl NoB w).alloc (.cells (confC n 2) 28)
  have hnf : ∀ a, ¬ F a w.heap.size := fun a e => by have := h.bd a _ e; omega
  have HX := Lib.hid (CLx.refl (h.chg0 c01))
  have HFt := Lib.hid fun w' F' (h' : CL w' F' P n n s) p hp => fault_any h' p hp hn hn2
  have HBo := Lib.hid fun w' F' (h' : CL w' F' P n n s) => bounds_any h' hn hn2
  have HFin : Hid (∀ w', CL.Then (w.alloc (.cells (confC n 2) 28)) F P n n s w' → CL.Then w F P n n s w') := Lib.hid (fun w' k => by
    obtain ⟨F'', k1, k2, k3⟩ := k
    exact ⟨F'', k1, fun a k hk => (k2 a k hk).imp id fun e => Nat.le_trans c01.size e, (c01.mono (S' := InF F) fun _ _ e => e.elim).trans k3 fun _ _ e => e⟩)
  have HNF := Lib.hid hnf
  obtain ⟨R, hR⟩ : ∃ R, ckV s n = R := ⟨_, rfl⟩
  rw [hR]
  have HR := Lib.hid hR
  clear h hn c01 hnf hR
  go_enter Tryz.func8, Tryz.ntmps8
  go_upto_region 1 with fail
  generalize w.alloc (.cells (confC n 2) 28) = w0 at *
  unfold confC at HB
  obtain ⟨cf, hcf⟩ : ∃ b, w.heap.size = b := ⟨_, rfl⟩
  rw [hcf] at HB HNF
  simp only [hcf]
  clear hcf
  have g : ∀ w', Chg (InF F) w0 w' → ∀ i, w'.cell? ⟨cf, i, none⟩ = _ := fun w' c i => (c.blk HB.out (fun ⟨a, e⟩ => HNF.out a e)).cell i
  have gl : ∀ w', Chg (InF F) w0 w' → cf < w'.heap.size := fun w' c => (c.blk HB.out (fun ⟨a, e⟩ => HNF.out a e)).lt
  have c0 := Chg.refl (InF F) w0
  go_wp2_with fail
  clear c0
  go_loopg [12] 3 (fun k v wr => ∃ (i : Nat) (F' : Nat → Nat → Prop), v = .int .i64 i ∧ i ≤ 2 ∧ k = 3 - i ∧ CLx w0 F P n s wr F' ∧ ∀ j, j < i → ftN s n j = 0)
  case atStart => exact ⟨0, F, rfl, by omega, by omega, HX.out, fun j hj => by omega⟩
  case round =>
    obtain ⟨i, F', rfl, hi, hk, hL, hA⟩ := hrel
    have HK := Lib.hid hk
    have HL := Lib.hid hL
    have HA := Lib.hid hA
    clear hk hL hA
    by_cases hi2 : i < 2
    · have t1 : decide ((i : Int) < 2) = true := decide_eq_true (by omega)
      have t2 : decide (i < 2) = true := decide_eq_true hi2
      have HF1 := Lib.hid (HFt.out _ _ HL.out.cl i hi2)
      have hlt := ftN_lt s n i
      obtain ⟨f, hf⟩ : ∃ f, ftN s n i = f := ⟨_, rfl⟩
      have HF := Lib.hid hf
      rw [hf] at HF1 hlt
      clear hf
      rcases f with _ | _ | _ | _ | f
      · have HF2 : Hid (Calls Tryz.prog 25 #[.pointer (some ⟨P.cb, 0, none⟩), .int .i64 i] _ (RetW (.string ⟨#[]⟩) _)) := HF1
        clear HF1
        go_wp2_with fail
        with_reducible refine HF2.out.mono ?_
        rintro e w1 ⟨rfl, hT⟩
        obtain ⟨F1, H1⟩ := HL.out.next hT
        have H1 := Lib.hid H1
        clear hT
        go_wp2_with fail
        go_roundg (3 - (i + 1))
        case rel => exact ⟨i + 1, F1, by go_num, by omega, rfl, H1.out, fun j hj => by
          by_cases e : j = i
          · rw [e]; exact HF.out
          · exact HA.out j (by omega)⟩
        case measure => rw [HK.out]; omega
      · have HF2 : Hid (Calls Tryz.prog 25 #[.pointer (some ⟨P.cb, 0, none⟩), .int .i64 i] _ (RetW (.string ⟨#[101, 120, 99, 108, 117, 115, 105, 118, 101]⟩) _)) := HF1
        clear HF1
        have HV : Hid (R = .tuple #[.int .i64 i, .string ⟨#[101, 120, 99, 108, 117, 115, 105, 118, 101]⟩]) := Lib.hid (by
          rw [← HR.out]
          unfold ckV
          rcases i with _ | _ | i
          · rw [if_neg (by rw [HF.out]; omega), HF.out]; rfl
          · rw [if_pos (HA.out 0 (by omega)), if_neg (by rw [HF.out]; omega), HF.out]; rfl
          · omega)
        go_wp2_with fail
        with_reducible refine HF2.out.mono ?_
        rintro e w1 ⟨rfl, hT⟩
        obtain ⟨F1, H1⟩ := HL.out.next hT
        have H1 := Lib.hid H1
        clear hT
        go_wp2_with fail
        go_ret2
        exact ⟨by rw [HV.out]; rfl, HFin.out _ H1.out.done⟩
      · have HF2 : Hid (Calls Tryz.prog 25 #[.pointer (some ⟨P.cb, 0, none⟩), .int .i64 i] _ (RetW (.string ⟨#[109, 101, 109, 98, 101, 114, 115]⟩) _)) := HF1
        clear HF1
        have HV : Hid (R = .tuple #[.int .i64 i, .string ⟨#[109, 101, 109, 98, 101, 114, 115]⟩]) := Lib.hid (by
          rw [← HR.out]
          unfold ckV
          rcases i with _ | _ | i
          · rw [if_neg (by rw [HF.out]; omega), HF.out]; rfl
          · rw [if_pos (HA.out 0 (by omega)), if_neg (by rw [HF.out]; omega), HF.out]; rfl
          · omega)
        go_wp2_with fail
        with_reducible refine HF2.out.mono ?_
        rintro e w1 ⟨rfl, hT⟩
        obtain ⟨F1, H1⟩ := HL.out.next hT
        have H1 := Lib.hid H1
        clear hT
        go_wp2_with fail
        go_ret2
        exact ⟨by rw [HV.out]; rfl, HFin.out _ H1.out.done⟩
      · have HF2 : Hid (Calls Tryz.prog 25 #[.pointer (some ⟨P.cb, 0, none⟩), .int .i64 i] _ (RetW (.string ⟨#[101, 113, 117, 97, 108]⟩) _)) := HF1
        clear HF1
        have HV : Hid (R = .tuple #[.int .i64 i, .string ⟨#[101, 113, 117, 97, 108]⟩]) := Lib.hid (by
          rw [← HR.out]
          unfold ckV
          rcases i with _ | _ | i
          · rw [if_neg (by rw [HF.out]; omega), HF.out]; rfl
          · rw [if_pos (HA.out 0 (by omega)), if_neg (by rw [HF.out]; omega), HF.out]; rfl
          · omega)
        go_wp2_with fail
        with_reducible refine HF2.out.mono ?_
        rintro e w1 ⟨rfl, hT⟩
        obtain ⟨F1, H1⟩ := HL.out.next hT
        have H1 := Lib.hid H1
        clear hT
        go_wp2_with fail
        go_ret2
        exact ⟨by rw [HV.out]; rfl, HFin.out _ H1.out.done⟩
      · omega
    · have t1 : decide ((i : Int) < 2) = false := decide_eq_false (by omega)
      have t2 : decide (i < 2) = false := decide_eq_false hi2
      have HV : Hid (R = .tuple #[.int .i64 (-1), .string ⟨#[]⟩]) := Lib.hid (by
        rw [← HR.out]
        unfold ckV
        rw [if_pos (HA.out 0 (by omega)), if_pos (HA.out 1 (by omega))])
      have HB1 := Lib.hid (HBo.out _ _ HL.out.cl)
      have c0 := HL.out.ch
      go_wp2_with fail
      with_reducible refine HB1.out.mono ?_
      rintro e w1 ⟨rfl, hT⟩
      obtain ⟨F1, H1⟩ := HL.out.next hT
      have H1 := Lib.hid H1
      clear hT
      go_wp2_with fail
      go_ret2
      exact ⟨by rw [HV.out]; rfl, HFin.out _ H1.out.done⟩
end Go.Proofs.YtleilfkcjollaaaGreat
set_option linter.unusedVariables false
set_option linter.unusedSimpArgs false
namespace Go.Proofs.YtleilfkcjollaaaGreat
open Go.RowKit Go.RR
set_option maxRecDepth 100000 in
theorem cNodes_nil (w : World) : Calls Tryz.prog 22 #[.pointer none] w (RetW (.int .i64 0) fun w' => w' = w) := by
  go_enter Tryz.func22, Tryz.ntmps22
  go_wp2_with fail
  go_ret
  exact ⟨rfl, rfl⟩
set_option maxRecDepth 100000 in
theorem owners_nil (p : Int) (w : World) : Calls Tryz.prog 7 #[.pointer none, .int .i64 p] w (RetW (.tuple #[.int .i64 0, .int .i64 (-1)]) fun w' => w' = w) := by
  have HN := Lib.hid (cNodes_nil w)
  go_enter Tryz.func7, Tryz.ntmps7
  go_wp2_with fail
  with_reducible refine HN.out.mono ?_
  rintro e w1 ⟨rfl, hw⟩
  subst hw
  go_wp2_with fail
  go_loopg [11, 6, 7] 0 (fun k v a b wr => v = .int .i64 0 ∧ a = .int .i64 0 ∧ b = .int .i64 (-1) ∧ wr = w1)
  case atStart => exact ⟨rfl, rfl, rfl, rfl⟩
  case round =>
    obtain ⟨rfl, rfl, rfl, rfl⟩ := hrel
    go_wp2_with fail
    go_ret2
    exact ⟨rfl, rfl⟩
set_option maxRecDepth 100000 in
theorem exclusive_nil (p : Int) (w : World) : Calls Tryz.prog 9 #[.pointer none, .int .i64 p] w (RetW (.bool true) fun w' => w' = w) := by
  have HN := Lib.hid (cNodes_nil w)
  go_enter Tryz.func9, Tryz.ntmps9
  go_wp2_with fail
  with_reducible refine HN.out.mono ?_
  rintro e w1 ⟨rfl, hw⟩
  subst hw
  go_wp2_with fail
  go_loopg [11, 5, 6] 0 (fun k v a b wr => v = .int .i64 0 ∧ a = .int .i64 0 ∧ b = .int .i64 0 ∧ wr = w1)
  case atStart => exact ⟨rfl, rfl, rfl, rfl⟩
  case round =>
    obtain ⟨rfl, rfl, rfl, rfl⟩ := hrel
    go_wp2_with fail
    go_ret
    exact ⟨rfl, rfl⟩
set_option maxRecDepth 100000 in
theorem members_nil (p : Int) (w : World) : Calls Tryz.prog 10 #[.pointer none, .int .i64 p] w (RetW (.bool true) fun w' => w' = w) := by
  have HN := Lib.hid (owners_nil p w)
  go_enter Tryz.func10, Tryz.ntmps10
  go_wp2_with fail
  with_reducible refine HN.out.mono ?_
  rintro e w1 ⟨rfl, hw⟩
  subst hw
  go_wp2_with fail
  go_ret
  exact ⟨rfl, rfl⟩
set_option maxRecDepth 100000 in
theorem equal_nil (p : Int) (w : World) : Calls Tryz.prog 11 #[.pointer none, .int .i64 p] w (RetW (.bool true) fun w' => w' = w) := by
  have HO := Lib.hid (owners_nil p w)
  have HN := Lib.hid (cNodes_nil w)
  go_enter Tryz.func11, Tryz.ntmps11
  go_wp2_with fail
  with_reducible refine HO.out.mono ?_
  rintro e w1 ⟨rfl, hw⟩
  subst hw
  go_wp2_with fail
  with_reducible refine HN.out.mono ?_
  rintro e w2 ⟨rfl, hw⟩
  subst hw
  go_wp2_with fail
  go_loopg [19, 7] 0 (fun k v a wr => v = .int .i64 0 ∧ a = .slice none 0 0 ∧ wr = w2)
  case atStart => exact ⟨rfl, rfl, rfl⟩
  case round =>
    obtain ⟨rfl, rfl, rfl⟩ := hrel
    go_wp2_with fail
    go_ret
    exact ⟨rfl, rfl⟩
set_option maxRecDepth 100000 in
theorem bounds_nil (a b : Int) (w : World) : Calls Tryz.prog 12 #[.pointer none, .int .i64 a, .int .i64 b] w (RetW (.bool true) fun w' => w' = w) := by
  go_enter Tryz.func12, Tryz.ntmps12
  go_wp2_with fail
  go_ret
  exact ⟨rfl, rfl⟩
set_option maxRecDepth 100000 in
theorem check_nil (a0 a1 a2 a3 a4 a5 a6 a7 a8 : Int) (w : World) : Calls Tryz.prog 8 #[.pointer none, .agg #[.int .i64 a0, .int .i64 a1, .int .i64 a2, .int .i64 a3, .int .i64 a4, .int .i64 a5, .int .i64 a6, .int .i64 a7, .int .i64 a8]] w (RetW (.tuple #[.int .i64 (-1), .string ⟨#[]⟩]) fun w' => Chg NoB w w') := by
  go_enter Tryz.func8, Tryz.ntmps8
  go_wp2_with fail
  go_ret2
  exact ⟨rfl, (Chg.refl NoB w).alloc _⟩
/-! Plain: nothing is found where nobody but the page's owner has it. -/
theorem eqR_one {s : Nat → Spc} {p : Nat} (h : ∀ j, vB (s j) p = true → j = p) : ∀ k i b, (b = none ∨ p < i) → eqR s p k i b = true
  | 0, _, _, _ => rfl
  | k + 1, i, b, hb => by
    unfold eqR
    by_cases e : (decide (i = p) || vB (s i) p) = true
    · rw [if_pos e]
      have hip : i = p := by
        rcases Bool.or_eq_true_iff.1 e with e | e
        · exact of_decide_eq_true e
        · exact h i e
      rcases hb with rfl | hb
      · exact eqR_one h k (i + 1) _ (.inr (by omega))
      · omega
    · rw [if_neg e]
      exact eqR_one h k (i + 1) b (hb.imp id fun e => by omega)
theorem cnt_zero {f : Nat → Bool} : ∀ n, (∀ j, j < n → f j = false) → cnt f n = 0
  | 0, _ => rfl
  | n + 1, h => by
    unfold cnt
    rw [cnt_zero n fun j hj => h j (by omega), h n (by omega)]
    rfl
theorem cnt_one {f : Nat → Bool} {p : Nat} : ∀ n, p < n → (∀ j, j < n → f j = true → j = p) → f p = true → cnt f n = 1
  | 0, hp, _, _ => absurd hp (by omega)
  | n + 1, hp, h, hf => by
    unfold cnt
    by_cases e : n = p
    · subst e
      rw [cnt_zero n fun j hj => by
        cases e : f j with
        | false => rfl
        | true => have := h j (by omega) e; omega, hf]
      rfl
    · rw [cnt_one n (by omega) (fun j hj => h j (by omega)) hf]
      cases e2 : f n with
      | false => rfl
      | true => exact absurd (h n (by omega) e2) e
theorem wB_vB {s : Spc} {p : Nat} (h : wB s p = true) : vB s p = true := by
  unfold wB at h
  unfold vB
  have : rightOf s p = 2 := by simpa using h
  rw [this]
  rfl
theorem ft_one {s : Nat → Spc} {n p : Nat} (hp : p < n) (h : ∀ j, vB (s j) p = true → j = p) : exB s n p = true ∧ mB s n p = true ∧ eqB s n p = true ∧ ftN s n p = 0 := by
  have h1 : exB s n p = true := by
    unfold exB
    by_cases e : wB (s p) p = true
    · rw [cnt_one (f := fun j => vB (s j) p) n hp (fun j _ => h j) (wB_vB e)]
      simp
    · rw [cnt_zero (f := fun j => wB (s j) p) n fun j _ => by
        cases e2 : wB (s j) p with
        | false => rfl
        | true => exact absurd ((h j (wB_vB e2)) ▸ e2) e]
      rfl
  have h2 : mB s n p = true := mB_true fun j _ => h j
  have h3 : eqB s n p = true := eqR_one h n 0 none (.inl rfl)
  refine ⟨h1, h2, h3, ?_⟩
  unfold ftN
  rw [h1, h2, h3]
  rfl
theorem sp0_no (p : Int) : vB (ndSp 2 []) p = false := by
  unfold vB rightOf
  have : (ndSp 2 []).rights = [] := rfl
  rw [this]
  rfl
set_option maxHeartbeats 4000000 in
set_option maxRecDepth 100000 in
theorem first28_any (w : World) : Calls Tryz.prog 6 #[] w (RetW (.bool true) fun w' => Chg NoB w w') := by
  have HU : Hid (∀ w', Calls Tryz.prog 16 #[.int .i64 2, .int .i64 2] w' (RetW (.agg #[.int .i64 2, .int .i64 1, .int .i64 2, .int .i64 2, .int .i64 2, .int .i64 2, .int .i64 2, .int .i64 3, .int .i64 12]) fun w'' => Chg NoB w' w'')) := Lib.hid fun w' => usual_any 2 2 w'
  have HN : Hid (∀ w', Calls Tryz.prog 17 #[.agg #[.int .i64 2, .int .i64 1, .int .i64 2, .int .i64 2, .int .i64 2, .int .i64 2, .int .i64 2, .int .i64 3, .int .i64 12], .slice none 0 0] w' (RetV fun v w'' => ∃ (P : Cpl) (F : Nat → Nat → Prop), v = .tuple #[.pointer (some ⟨P.cb, 0, none⟩), .int .i64 0] ∧ CL w'' F P 2 2 (fun _ => ndSp 2 []) ∧ (∀ a k, F a k → w'.heap.size ≤ k) ∧ Chg NoB w' w'')) := Lib.hid fun w' => cNew_any 2 (by omega) (by omega)
  have f0 := ft_one (s := fun _ => ndSp 2 []) (n := 2) (p := 0) (by omega) fun j e => by rw [sp0_no] at e; cases e
  have f1 := ft_one (s := fun _ => ndSp 2 []) (n := 2) (p := 1) (by omega) fun j e => by rw [sp0_no] at e; cases e
  have HF := Lib.hid (And.intro f0 f1)
  have HV : Hid (ckV (fun _ => ndSp 2 []) 2 = .tuple #[.int .i64 (-1), .string ⟨#[]⟩]) := Lib.hid (by unfold ckV; rw [if_pos f0.2.2.2, if_pos f1.2.2.2])
  clear f0 f1
  go_enter Tryz.func6, Tryz.ntmps6
  go_wp2_with fail
  with_reducible refine (HU.out _).mono ?_
  rintro e w1 ⟨rfl, C1⟩
  have hB := Blk.new w1 #[.int .i64 2, .int .i64 1, .int .i64 2, .int .i64 2, .int .i64 2, .int .i64 2, .int .i64 2, .int .i64 3, .int .i64 12] 28
  have HC := Lib.hid (C1.alloc (.cells #[.int .i64 2, .int .i64 1, .int .i64 2, .int .i64 2, .int .i64 2, .int .i64 2, .int .i64 2, .int .i64 3, .int .i64 12] 28))
  go_upto_region 2 with fail
  generalize w1.alloc (.cells #[.int .i64 2, .int .i64 1, .int .i64 2, .int .i64 2, .int .i64 2, .int .i64 2, .int .i64 2, .int .i64 3, .int .i64 12] 28) = w2 at *
  obtain ⟨cf, hcf⟩ : ∃ b, w1.heap.size = b := ⟨_, rfl⟩
  rw [hcf] at hB
  simp only [hcf]
  have HB := Lib.hid hB
  have HZ := Lib.hid hB.lt
  have g := hB.ever
  have gl := hB.everL
  have c0 := Chg.refl NoB w2
  clear hcf C1 hB
  go_wp2_with fail
  with_reducible refine (HN.out _).mono ?_
  rintro e w3 ⟨v, rfl, P, F, rfl, hCL, hF, C3⟩
  have HX := Lib.hid (CLx.refl hCL)
  have HC3 := Lib.hid (And.intro C3 hF)
  have HB3 := Lib.hid (C3.blk0 HB.out)
  have HBF : Hid (∀ w', Chg (InF F) w3 w' → Blk w' cf #[.int .i64 2, .int .i64 1, .int .i64 2, .int .i64 2, .int .i64 2, .int .i64 2, .int .i64 2, .int .i64 3, .int .i64 12] 28) := Lib.hid (fun w' c => c.blk HB3.out fun ⟨a, e⟩ => by have := hF a cf e; have := HZ.out; omega)
  have HCk : Hid (Calls Tryz.prog 8 #[.pointer (some ⟨P.cb, 0, none⟩), .agg #[.int .i64 2, .int .i64 1, .int .i64 2, .int .i64 2, .int .i64 2, .int .i64 2, .int .i64 2, .int .i64 3, .int .i64 12]] w3 (RetW (.tuple #[.int .i64 (-1), .string ⟨#[]⟩]) fun w' => CL.Then w3 F P 2 2 (fun _ => ndSp 2 []) w')) := Lib.hid (by
    have := aCheck_any hCL (by omega) (by omega)
    rw [HV.out] at this
    exact this)
  have b3 := HB3.out.cell
  have l3 := HB3.out.lt
  clear hCL hF C3 g gl c0
  go_wp2_with fail
  with_reducible refine HCk.out.mono ?_
  rintro e w4 ⟨rfl, hT⟩
  obtain ⟨F4, H4⟩ := HX.out.next hT
  have H4 := Lib.hid H4
  have HO4 : Hid (Calls Tryz.prog 7 #[.pointer (some ⟨P.cb, 0, none⟩), .int .i64 1] w4 (RetW (.tuple #[.int .i64 1, .int .i64 1]) fun w' => CL.Then w4 F4 P 2 2 (fun _ => ndSp 2 []) w')) := Lib.hid (owners_any H4.out.cl 1 (by omega) (by omega) (by omega))
  clear hT b3 l3
  go_wp2_with fail
  with_reducible refine HO4.out.mono ?_
  rintro e w5 ⟨rfl, hT⟩
  obtain ⟨F5, H5⟩ := H4.out.next hT
  have H5 := Lib.hid H5
  have HE5 : Hid (Calls Tryz.prog 9 #[.pointer (some ⟨P.cb, 0, none⟩), .int .i64 0] w5 (RetW (.bool true) fun w' => Chg NoB w5 w')) := Lib.hid (by
    have := exclusive_any H5.out.cl 0 (by omega) (by omega) (by omega)
    rw [HF.out.1.1] at this
    exact this)
  clear hT
  go_wp2_with fail
  with_reducible refine HE5.out.mono ?_
  rintro e w6 ⟨rfl, C6⟩
  have H6 := Lib.hid (H5.out.chg0 C6)
  have HM6 : Hid (Calls Tryz.prog 10 #[.pointer (some ⟨P.cb, 0, none⟩), .int .i64 0] w6 (RetW (.bool true) fun w' => CL.Then w6 F5 P 2 2 (fun _ => ndSp 2 []) w')) := Lib.hid (by
    have := members_any H6.out.cl 0 (by omega) (by omega) (by omega)
    rw [HF.out.1.2.1] at this
    exact this)
  clear C6
  go_wp2_with fail
  with_reducible refine HM6.out.mono ?_
  rintro e w7 ⟨rfl, hT⟩
  obtain ⟨F7, H7⟩ := H6.out.next hT
  have H7 := Lib.hid H7
  have HE7 : Hid (Calls Tryz.prog 11 #[.pointer (some ⟨P.cb, 0, none⟩), .int .i64 0] w7 (RetW (.bool true) fun w' => CL.Then w7 F7 P 2 2 (fun _ => ndSp 2 []) w')) := Lib.hid (by
    have := equal_any H7.out.cl 0 (by omega) (by omega) (by omega)
    rw [HF.out.1.2.2.1] at this
    exact this)
  clear hT
  go_wp2_with fail
  with_reducible refine HE7.out.mono ?_
  rintro e w8 ⟨rfl, hT⟩
  obtain ⟨F8, H8⟩ := H7.out.next hT
  have H8 := Lib.hid H8
  have HB8 := Lib.hid (bounds_any H8.out.cl (by omega) (by omega))
  clear hT
  go_wp2_with fail
  with_reducible refine HB8.out.mono ?_
  rintro e w9 ⟨rfl, hT⟩
  obtain ⟨F9, H9⟩ := H8.out.next hT
  have HFin : Hid (Chg NoB w w9) := Lib.hid (by
    have h1 : Chg NoB w2 w9 := HC3.out.1.trans H9.ch fun k hk ⟨a, e⟩ => by have := HC3.out.2 a k e; omega
    exact HC.out.step h1)
  clear hT H9
  go_wp2_with fail
  go_ret
  exact ⟨rfl, HFin.out⟩
set_option maxHeartbeats 2000000 in
set_option maxRecDepth 100000 in
theorem auditNil_any (page window : Int) (w : World) : Calls Tryz.prog 3 #[.int .i64 page, .int .i64 window] w (RetW (.bool true) fun w' => Chg NoB w w') := by
  have HF := Lib.hid (first28_any w)
  go_enter Tryz.func3, Tryz.ntmps3
  go_wp2_with fail
  with_reducible refine HF.out.mono ?_
  rintro e w1 ⟨rfl, C1⟩
  have HC1 := Lib.hid C1
  have HO := Lib.hid (owners_nil page w1)
  clear C1
  go_wp2_with fail
  with_reducible refine HO.out.mono ?_
  rintro e w2 ⟨rfl, hw⟩
  subst hw
  have HCk := Lib.hid (check_nil 0 0 page 0 0 0 0 0 0 w2)
  go_wp2_with fail
  with_reducible refine HCk.out.mono ?_
  rintro e w3 ⟨rfl, C3⟩
  have HC3 := Lib.hid (HC1.out.step C3)
  have H1 := Lib.hid (exclusive_nil page w3)
  have H2 := Lib.hid (members_nil page w3)
  have H3 := Lib.hid (equal_nil page w3)
  have H4 := Lib.hid (bounds_nil window window w3)
  clear C3
  go_wp2_with fail
  with_reducible refine H1.out.mono ?_
  rintro e w4 ⟨rfl, hw⟩
  subst hw
  go_wp2_with fail
  with_reducible refine H2.out.mono ?_
  rintro e w4' ⟨rfl, hw⟩
  subst hw
  go_wp2_with fail
  with_reducible refine H3.out.mono ?_
  rintro e w5 ⟨rfl, hw⟩
  subst hw
  go_wp2_with fail
  with_reducible refine H4.out.mono ?_
  rintro e w6 ⟨rfl, hw⟩
  subst hw
  go_wp2_with fail
  go_ret
  exact ⟨rfl, HC3.out⟩
end Go.Proofs.YtleilfkcjollaaaGreat
