/- The audit: equal bytes, links within their bounds, how many pages are shared. No condition. -/
import Derived.Test.YtleilfkcjollaaaGreatHi
set_option linter.unusedVariables false
set_option linter.unusedSimpArgs false
namespace Go.Proofs.YtleilfkcjollaaaGreat
open Go.RowKit Go.RR
/-- Are the bytes equal of those that are left? -/
def eqR (s : Nat → Spc) (p : Nat) : Nat → Nat → Option By → Bool
  | 0, _, _ => true
  | k + 1, i, b => if decide (i = p) || vB (s i) p then
      match b with
      | none => eqR s p k (i + 1) (some (dataF (s i) p))
      | some d => if (pgS d).toList == (pgS (dataF (s i) p)).toList then eqR s p k (i + 1) (some (dataF (s i) p)) else false
    else eqR s p k (i + 1) b
def eqB (s : Nat → Spc) (n p : Nat) : Bool := eqR s p n 0 none
/-- The bytes kept so far. -/
def BufAt (w : World) (v : Value) (b : Option By) : Prop := match b with
  | none => v = .slice none 0 0
  | some d => ∃ g off cap, v = .slice (some ⟨g, off, none⟩) 4096 cap ∧ Sl w (fun _ => True) 1 v (pgS d).size (byteCells (pgS d))
theorem BufAt.chg0 {w w' : World} {v : Value} {b : Option By} (h : BufAt w v b) (c : Chg NoB w w') : BufAt w' v b := by
  cases b with
  | none => exact h
  | some d =>
    obtain ⟨g, off, cap, h1, h2⟩ := h
    exact ⟨g, off, cap, h1, h2.chg0 c⟩
theorem CL.data {w : World} {F : Nat → Nat → Prop} {P : Cpl} {m n : Nat} {s : Nat → Spc} (h : CL w F P m n s) (i : Nat) (hi : i < m) (p : Nat) (hp : p < 2) :
    Calls Tryz.prog 29 #[.pointer (some ⟨P.pb i, 0, none⟩), .int .i64 p] w (RetV fun v w' => (∃ g off cap, v = .slice (some ⟨g, off, none⟩) 4096 cap) ∧ Sl w' (fun _ => True) 1 v (pgS (dataF (s i) p)).size (byteCells (pgS (dataF (s i) p))) ∧ Chg NoB w w') := by
  obtain ⟨L, hS, hpb, -⟩ := h.sp i hi
  obtain ⟨t1, t0, I⟩ := (h.ok i hi).inv
  have hsh : (s i).shape.shared = 2 := by rw [(h.ok i hi).shape]
  have hfr : ∀ f, frameOf (s i) p = some f → f < (s i).u.fr := fun f hf => by
    have h1 := (I.ft f (frameOf_mem hf)).1
    have h2 := I.inv.nx
    have h3 := I.inv.fin
    exact Nat.lt_of_lt_of_le h1 (Nat.le_trans h2 h3)
  obtain ⟨mp, m', -, -, -, -, -, hpg⟩ := hS.mu.mem
  have hby : ∀ a, dataF (s i) p a < 256 := fun a => by
    unfold dataF
    cases frameOf (s i) p with
    | none => show 0 < 256; omega
    | some f => exact hpg.ok _
  have hd := data_any hS p (by omega) (by rw [hsh]; omega) hfr
  rw [hpb] at hd
  refine hd.mono ?_
  rintro e w' ⟨v, rfl, ho, c⟩
  obtain ⟨g, off, cap, hv, -⟩ := ho.spot (by omega)
  refine ⟨v, rfl, ⟨g, off, cap, hv⟩, ?_, c⟩
  rw [pgS_size, pgS_cells hby]
  exact ho.sl.mono fun _ _ => trivial
set_option maxHeartbeats 2000000 in
set_option maxRecDepth 100000 in
theorem equal_any {w : World} {F : Nat → Nat → Prop} {P : Cpl} {n : Nat} {s : Nat → Spc} (h : CL w F P n n s) (p : Nat) (hp : p < 2) (hn : 2 ≤ n) (hn2 : n ≤ 16) :
    Calls Tryz.prog 11 #[.pointer (some ⟨P.cb, 0, none⟩), .int .i64 p] w (RetW (.bool (eqB s n p)) fun w' => CL.Then w F P n n s w') := by
  have HO := Lib.hid (owners_any h p hp hn hn2)
  have HX := Lib.hid (CLx.refl h)
  have HP := Lib.hid (And.intro hp (And.intro hn hn2))
  have hfv := vw_valid
  obtain ⟨R, hR⟩ : ∃ R, eqB s n p = R := ⟨_, rfl⟩
  rw [hR]
  have HR := Lib.hid hR
  clear h hp hn hR
  go_enter Tryz.func11, Tryz.ntmps11
  go_wp2_with fail
  with_reducible refine HO.out.mono ?_
  rintro e w1 ⟨rfl, hT⟩
  obtain ⟨F1, H1⟩ := HX.out.next hT
  have H1 := Lib.hid H1
  have HNs := Lib.hid (cNodes_any H1.out.cl)
  clear hT HO HX
  go_wp2_with fail
  with_reducible refine HNs.out.mono ?_
  rintro e w6 ⟨rfl, hw⟩
  subst hw
  go_wp2_with fail
  go_loopg [19, 7] n (fun k v b wr => ∃ (i : Nat) (bo : Option By), v = .int .i64 i ∧ i ≤ n ∧ k = n - i ∧ BufAt wr b bo ∧ eqR s p (n - i) i bo = R ∧ Chg NoB w6 wr)
  case atStart => exact ⟨0, none, rfl, by omega, by omega, rfl, HR.out, Chg.refl _ _⟩
  case round =>
    obtain ⟨i, bo, rfl, hin, hk, hB, hRi, hC⟩ := hrel
    have HK := Lib.hid hk
    have HB := Lib.hid hB
    have HRi := Lib.hid hRi
    have HC := Lib.hid hC
    clear hk hB hRi hC
    by_cases hi : i < n
    · have t1 : decide ((i : Int) < n) = true := decide_eq_true (by omega)
      have t2 : decide (i < n) = true := decide_eq_true hi
      have HCL := Lib.hid (H1.out.cl.chg0 HC.out)
      have HNd := Lib.hid (cNode_any HCL.out i hi)
      have HLk := Lib.hid (look_any HCL.out i hi p HP.out.1)
      have HSp := Lib.hid fun w' (c : Chg NoB w6 w') => nSpace_any (H1.out.cl.chg0 c) i hi
      have HDa := Lib.hid fun w' (c : Chg NoB w6 w') => CL.data (H1.out.cl.chg0 c) i hi p HP.out.1
      obtain ⟨nb, hnb⟩ : ∃ b, P.nb i = b := ⟨_, rfl⟩
      obtain ⟨pb, hpb⟩ : ∃ b, P.pb i = b := ⟨_, rfl⟩
      rw [hnb] at HNd HLk HSp
      rw [hpb] at HSp HDa
      have HSt : Hid (eqR s p (n - i) i bo = eqR s p ((n - (i + 1)) + 1) i bo) := Lib.hid (by rw [show n - i = n - (i + 1) + 1 by omega])
      clear hnb hpb
      obtain ⟨q1, hq1⟩ : ∃ q, decide (i = p) = q := ⟨_, rfl⟩
      obtain ⟨bv, hbv⟩ : ∃ q, vB (s i) p = q := ⟨_, rfl⟩
      rw [hbv] at HLk
      have HSel : Hid (∀ b, eqR s p (n - (i + 1) + 1) i b = if q1 || bv then (match b with | none => eqR s p (n - (i + 1)) (i + 1) (some (dataF (s i) p)) | some d => if (pgS d).toList == (pgS (dataF (s i) p)).toList then eqR s p (n - (i + 1)) (i + 1) (some (dataF (s i) p)) else false) else eqR s p (n - (i + 1)) (i + 1) b) := Lib.hid (fun b => by
        rw [← hq1, ← hbv]; rfl)
      have e1 : ((i : Int) == p) = q1 := by
        rw [← hq1]
        by_cases e : i = p
        · subst e; simp
        · rw [beq_eq_false_iff_ne.2 (by omega), decide_eq_false e]
      have e2 : (i == p) = q1 := by rw [← hq1]; rfl
      have e3 : ((i : Int) != p) = !q1 := by rw [bne, e1]
      have e4 : (i != p) = !q1 := by rw [bne, e2]
      clear hq1 hbv
      cases bo with
      | none =>
        have hb := HB.out
        unfold BufAt at hb
        subst hb
        cases q1
        · cases bv
          · have HN : Hid (eqR s p (n - (i + 1)) (i + 1) none = R) := Lib.hid (by rw [← HRi.out, HSt.out, HSel.out]; rfl)
            go_wp2_with fail
            with_reducible refine HNd.out.mono ?_
            rintro e w2 ⟨rfl, hw⟩
            subst hw
            go_wp2_with fail
            with_reducible refine HLk.out.mono ?_
            rintro e w3 ⟨rfl, C3⟩
            have HC3 := Lib.hid (HC.out.step C3)
            have HC3' := Lib.hid C3
            clear C3
            go_wp2_with fail
            go_roundg (n - (i + 1))
            case rel => exact ⟨i + 1, none, by go_num, by omega, rfl, rfl, HN.out, HC3.out⟩
            case measure => rw [HK.out]; omega
          · have HN : Hid (eqR s p (n - (i + 1)) (i + 1) (some (dataF (s i) p)) = R) := Lib.hid (by rw [← HRi.out, HSt.out, HSel.out]; rfl)
            go_wp2_with fail
            with_reducible refine HNd.out.mono ?_
            rintro e w2 ⟨rfl, hw⟩
            subst hw
            go_wp2_with fail
            with_reducible refine HLk.out.mono ?_
            rintro e w3 ⟨rfl, C3⟩
            have HC3 := Lib.hid (HC.out.step C3)
            have HC3' := Lib.hid C3
            clear C3
            go_wp2_with fail
            with_reducible refine (HSp.out _ HC3.out).mono ?_
            rintro e w4 ⟨rfl, hw⟩
            subst hw
            go_wp2_with fail
            with_reducible refine (HDa.out _ HC3.out).mono ?_
            rintro e w5 ⟨v, rfl, ⟨g1, off1, cap1, rfl⟩, hs1, C5⟩
            have HD := Lib.hid (And.intro hs1 (HC3.out.step C5))
            have HD' := Lib.hid (HC3'.out.step C5)
            clear hs1 C5
            go_wp2_with fail
            go_roundg (n - (i + 1))
            case rel => exact ⟨i + 1, some (dataF (s i) p), by go_num, by omega, rfl, ⟨_, _, _, rfl, HD.out.1⟩, HN.out, HD.out.2⟩
            case measure => rw [HK.out]; omega
        · have HN : Hid (eqR s p (n - (i + 1)) (i + 1) (some (dataF (s i) p)) = R) := Lib.hid (by rw [← HRi.out, HSt.out, HSel.out]; rfl)
          have HC3 := HC
          have HC3' := Lib.hid (Chg.refl NoB wr)
          go_wp2_with fail
          with_reducible refine HNd.out.mono ?_
          rintro e w2 ⟨rfl, hw⟩
          subst hw
          go_wp2_with fail
          with_reducible refine (HSp.out _ HC3.out).mono ?_
          rintro e w4 ⟨rfl, hw⟩
          subst hw
          go_wp2_with fail
          with_reducible refine (HDa.out _ HC3.out).mono ?_
          rintro e w5 ⟨v, rfl, ⟨g1, off1, cap1, rfl⟩, hs1, C5⟩
          have HD := Lib.hid (And.intro hs1 (HC3.out.step C5))
          have HD' := Lib.hid (HC3'.out.step C5)
          clear hs1 C5
          go_wp2_with fail
          go_roundg (n - (i + 1))
          case rel => exact ⟨i + 1, some (dataF (s i) p), by go_num, by omega, rfl, ⟨_, _, _, rfl, HD.out.1⟩, HN.out, HD.out.2⟩
          case measure => rw [HK.out]; omega
      | some d0 =>
        obtain ⟨g0, off0, cap0, hb, hsl⟩ := HB.out
        subst hb
        have HS0 := Lib.hid hsl
        clear hsl
        obtain ⟨qe, hqe⟩ : ∃ q, ((pgS d0).toList == (pgS (dataF (s i) p)).toList) = q := ⟨_, rfl⟩
        have HQE := Lib.hid hqe
        clear hqe
        cases q1
        · cases bv
          · have HN : Hid (eqR s p (n - (i + 1)) (i + 1) (some d0) = R) := Lib.hid (by rw [← HRi.out, HSt.out, HSel.out]; rfl)
            go_wp2_with fail
            with_reducible refine HNd.out.mono ?_
            rintro e w2 ⟨rfl, hw⟩
            subst hw
            go_wp2_with fail
            with_reducible refine HLk.out.mono ?_
            rintro e w3 ⟨rfl, C3⟩
            have HC3 := Lib.hid (HC.out.step C3)
            have HC3' := Lib.hid C3
            clear C3
            go_wp2_with fail
            go_roundg (n - (i + 1))
            case rel => exact ⟨i + 1, some d0, by go_num, by omega, rfl, ⟨_, _, _, rfl, HS0.out.chg0 HC3'.out⟩, HN.out, HC3.out⟩
            case measure => rw [HK.out]; omega
          · have HN : Hid ((if qe then eqR s p (n - (i + 1)) (i + 1) (some (dataF (s i) p)) else false) = R) := Lib.hid (by rw [← HRi.out, HSt.out, HSel.out, ← HQE.out]; rfl)
            go_wp2_with fail
            with_reducible refine HNd.out.mono ?_
            rintro e w2 ⟨rfl, hw⟩
            subst hw
            go_wp2_with fail
            with_reducible refine HLk.out.mono ?_
            rintro e w3 ⟨rfl, C3⟩
            have HC3 := Lib.hid (HC.out.step C3)
            have HC3' := Lib.hid C3
            clear C3
            go_wp2_with fail
            with_reducible refine (HSp.out _ HC3.out).mono ?_
            rintro e w4 ⟨rfl, hw⟩
            subst hw
            go_wp2_with fail
            with_reducible refine (HDa.out _ HC3.out).mono ?_
            rintro e w5 ⟨v, rfl, ⟨g1, off1, cap1, rfl⟩, hs1, C5⟩
            have HD := Lib.hid (And.intro hs1 (HC3.out.step C5))
            have HD' := Lib.hid (HC3'.out.step C5)
            clear hs1 C5
            have HBq := Lib.hid (bEqual_any (HS0.out.chg0 HD'.out) HD.out.1)
            rw [HQE.out] at HBq
            cases qe
            · go_wp2_with fail
              with_reducible refine HBq.out.mono ?_
              rintro e w6' ⟨rfl, hw⟩
              subst hw
              go_wp2_with fail
              go_ret
              exact ⟨by rw [← HN.out]; rfl, (H1.out.chg0 HD.out.2).done⟩
            · go_wp2_with fail
              with_reducible refine HBq.out.mono ?_
              rintro e w6' ⟨rfl, hw⟩
              subst hw
              go_wp2_with fail
              go_roundg (n - (i + 1))
              case rel => exact ⟨i + 1, some (dataF (s i) p), by go_num, by omega, rfl, ⟨_, _, _, rfl, HD.out.1⟩, HN.out, HD.out.2⟩
              case measure => rw [HK.out]; omega
        · have HN : Hid ((if qe then eqR s p (n - (i + 1)) (i + 1) (some (dataF (s i) p)) else false) = R) := Lib.hid (by rw [← HRi.out, HSt.out, HSel.out, ← HQE.out]; rfl)
          have HC3 := HC
          have HC3' := Lib.hid (Chg.refl NoB wr)
          go_wp2_with fail
          with_reducible refine HNd.out.mono ?_
          rintro e w2 ⟨rfl, hw⟩
          subst hw
          go_wp2_with fail
          with_reducible refine (HSp.out _ HC3.out).mono ?_
          rintro e w4 ⟨rfl, hw⟩
          subst hw
          go_wp2_with fail
          with_reducible refine (HDa.out _ HC3.out).mono ?_
          rintro e w5 ⟨v, rfl, ⟨g1, off1, cap1, rfl⟩, hs1, C5⟩
          have HD := Lib.hid (And.intro hs1 (HC3.out.step C5))
          have HD' := Lib.hid (HC3'.out.step C5)
          clear hs1 C5
          have HBq := Lib.hid (bEqual_any (HS0.out.chg0 HD'.out) HD.out.1)
          rw [HQE.out] at HBq
          cases qe
          · go_wp2_with fail
            with_reducible refine HBq.out.mono ?_
            rintro e w6' ⟨rfl, hw⟩
            subst hw
            go_wp2_with fail
            go_ret
            exact ⟨by rw [← HN.out]; rfl, (H1.out.chg0 HD.out.2).done⟩
          · go_wp2_with fail
            with_reducible refine HBq.out.mono ?_
            rintro e w6' ⟨rfl, hw⟩
            subst hw
            go_wp2_with fail
            go_roundg (n - (i + 1))
            case rel => exact ⟨i + 1, some (dataF (s i) p), by go_num, by omega, rfl, ⟨_, _, _, rfl, HD.out.1⟩, HN.out, HD.out.2⟩
            case measure => rw [HK.out]; omega
    · have t1 : decide ((i : Int) < n) = false := decide_eq_false (by omega)
      have t2 : decide (i < n) = false := decide_eq_false hi
      have HN : Hid (R = true) := Lib.hid (by rw [← HRi.out, show n - i = 0 by omega]; rfl)
      go_wp2_with fail
      go_ret
      exact ⟨by rw [HN.out]; rfl, (H1.out.chg0 HC.out).done⟩
end Go.Proofs.YtleilfkcjollaaaGreat
