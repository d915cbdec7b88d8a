/- Pieces of programs: joined ones by the reference; locks. No condition. -/
import Derived.Test.YtdkplhdinklflaaBuild4
set_option linter.unusedVariables false
namespace Go.Proofs.Ytdkplhdinklflaa
open Go.RowKit Go.RR

theorem seq_any (S : Nat → Prop) (v : Value) (vs : List Value) (ls : List (List In)) (w : World) (hs : Sl w S 1 v vs.length vs) (hr : PRows w vs ls) (hn : vs.length ≤ 1000) (hl : ls.flatten.length ≤ 100000) :
    Calls Try.prog 18 #[v] w (RetSl fun v' w' => IsNew w w' v' ls.flatten) := by
  obtain ⟨p, cap, rfl⟩ := hs.form
  have HS := Lib.hid hs
  have HR := Lib.hid hr
  clear hs hr
  go_enter Try.func18, Try.ntmps18
  go_wp2_with fail
  refine (concat_any S _ vs ls _ HS.out HR.out hn hl).mono ?_
  rintro e w1 ⟨v1, rfl, o1⟩
  have HO := Lib.hid o1
  clear o1
  go_wp2_with fail
  go_ret
  exact ⟨_, rfl, HO.out⟩

def madeF (l : List In) : List In := if rightP l = true then l else []
theorem made_any (w0 w : World) (v : Value) (l : List In) (h : IsNew w0 w v l) (hl : l.length ≤ 100000) : Calls Try.prog 65 #[v] w (RetSl fun v' w' => IsNew w0 w' v' (madeF l)) := by
  have H := Lib.hid h
  clear h
  obtain ⟨b, hb⟩ : ∃ b, rightP l = b := ⟨_, rfl⟩
  have HB := Lib.hid hb
  unfold madeF
  rw [hb]
  clear hb
  go_enter Try.func65, Try.ntmps65
  go_wp2_with fail
  refine (bright_any _ _ l _ H.out.1.sl hl).mono ?_
  rintro e w1 ⟨rfl, C1⟩
  rw [HB.out]
  have H1 := Lib.hid (H.out.then0 C1)
  clear C1
  cases b
  · go_wp2_with fail
    go_ret
    exact ⟨_, rfl, Own.nil _ _ _ _, H1.out.2⟩
  · go_wp2_with fail
    go_ret
    exact ⟨_, rfl, H1.out⟩
theorem jal_any (n : Int) (w : World) : Calls Try.prog 69 #[.int .i64 n] w (RetW (.agg #[.int .i64 18, .int .i64 0, .int .i64 0, .int .i64 0, .int .i64 n]) fun w' => Chg NoB w w') := by
  go_enter Try.func69, Try.ntmps69
  go_wp2
  exact bodyPost_ret (by simp [results, Try.results69, go_sem]) rfl ⟨rfl, (Chg.refl _ _).alloc _⟩
theorem one_any (o rd rs a b : Int) (w : World) : Calls Try.prog 56 #[.int .i64 o, .int .i64 rd, .int .i64 rs, .agg #[.int .i64 a, .int .i64 b]] w (RetSl fun v w' => IsNew w w' v [⟨o, rd, rs, a, b⟩]) := by
  go_enter Try.func56, Try.ntmps56
  go_wp2
  go_ret
  have N := (IsNew.fresh (w.alloc (.cells #[.int .i64 a, .int .i64 b] 62)) [⟨o, rd, rs, a, b⟩] _ rfl 1 rfl (by omega)).1
  have hz : (w.alloc (.cells #[.int .i64 a, .int .i64 b] 62)).heap.size = w.heap.size + 1 := by simp
  rw [hz] at N
  exact ⟨_, rfl, N.mono fun k hk => by omega, ((Chg.refl _ _).alloc _).alloc _⟩


set_option maxHeartbeats 1000000 in
set_option maxRecDepth 100000 in
theorem join_any (S : Nat → Prop) (v : Value) (vs : List Value) (ls : List (List In)) (w : World) (hs : Sl w S 1 v vs.length vs) (hr : PRows w vs ls) (hn : vs.length ≤ 1000) (hl : ls.flatten.length ≤ 100000) :
    Calls Try.prog 55 #[v] w (RetSl fun v' w' => IsNew w w' v' (madeF ls.flatten)) := by
  obtain ⟨i0, hi0, hz0, hz1, hz2⟩ := info_parts INinfo
  obtain ⟨p, cap, rfl⟩ := hs.form
  have HS := Lib.hid hs
  have HR := Lib.hid hr
  have HI := Lib.hid (And.intro hi0 (And.intro hz0 (And.intro hz1 hz2)))
  have HFL := Lib.hid hl
  clear hs hr hi0 hz0 hz1 hz2 hl
  go_enter Try.func55, Try.ntmps55
  go_wp2_with fail
  go_loopg [3, 8] vs.length (fun m nv ix wr => ∃ n : Nat, n + m = vs.length ∧ ix = .int .i64 n ∧ IsNew w wr nv (ls.take n).flatten)
  case atStart => exact ⟨0, by omega, rfl, IsNew.nil _⟩
  case round =>
    obtain ⟨n, hn, rfl, hI⟩ := hrel
    have HN := Lib.hid hn
    have hnl : n ≤ vs.length := by omega
    clear hn
    have hC := hI.2
    by_cases hlt : n < vs.length
    ·
      -- the slice at place n of the rows, read in world wr: x = .slice p l.length cap
      obtain ⟨x, hx⟩ : ∃ x, vs[n]? = some x := ⟨vs[n]'(by omega), by simp [show n < vs.length by omega]⟩
      obtain ⟨l, hl⟩ : ∃ l, ls[n]? = some l := ⟨ls[n]'(by have := HR.out.1; omega), by simp [show n < ls.length by have := HR.out.1; omega]⟩
      obtain ⟨S', hS'⟩ := (HR.out.chg0 hC).2 n x l hx hl
      obtain ⟨p', cap', rfl⟩ := hS'.form
      obtain ⟨-, pz, cz, e, hcz, hsz⟩ := HS.out.chg0 hC
      cases e
      obtain ⟨g, of, rfl, -, hg, hcell⟩ := hsz (by omega)
      have x0 := hcell n _ hx
      have hfn := flat_next hl
      have hle := flat_le ls (n + 1)
      rw [hfn, List.length_append] at hle
      have n0 : (0 : Int) ≤ n := by omega
      generalize hF : (ls.take n).flatten = F at *
      clear hF
      have HX := Lib.hid hfn
      clear hfn
      have oA := hI.1
      obtain ⟨pa, ca, e⟩ := oA.form
      subst e
      have one1 := icells_one l
      have b1 : F.length + l.length ≤ maxLen := by have := HFL.out; unfold maxLen; omega
      have b2 : (F.length + l.length) * 40 ≤ 140737488355328 := by have := HFL.out; omega
      have hob := oA.ownBlock
      obtain ⟨hi0, hz0, hz1, hz2⟩ := HI.out
      clear hI hsz hcell hx hl
      go_wp2_with (at_builtin; go_must (refine wpList_app rfl _ _ 23 rfl i0 _ 40 Try.underlying23 hi0 hz0 hz1 hz2 rfl rfl oA _ l.length _ rfl hS' one1 b1 b2 ?_))
      intro v2 w2 o2 g2 _
      have C2 := hC.grown g2 (fun k hk => .inr (hob k hk).1)
      have O2 : Own w2 (fun k => w.heap.size ≤ k) 32 5 v2 (F.length + l.length) (icells F ++ icells l) := o2.mono fun k hk => hk.elim (fun h => (hob k h).1) (fun h => by have := hC.size; omega)
      rw [← icells_app, ← List.length_append] at O2
      have HO2 := Lib.hid O2
      have HC2 := Lib.hid C2
      clear oA hS' one1 b1 b2 hob hC o2 g2 C2 O2 hle hi0 hz0 hz1 hz2 x0
      go_wp2_with fail
      go_roundg (vs.length - (n + 1))
      case measure => have := HN.out; omega
      case rel => exact ⟨n + 1, by have := HN.out; omega, by go_num, by rw [HX.out]; exact ⟨HO2.out, HC2.out⟩⟩
    · obtain rfl : n = vs.length := by omega
      rw [HR.out.1, List.take_length] at hI
      have H := Lib.hid hI
      clear hI hC
      obtain ⟨b, hb⟩ : ∃ b, rightP ls.flatten = b := ⟨_, rfl⟩
      have HB := Lib.hid hb
      have HM := Lib.hid (show madeF ls.flatten = if b = true then ls.flatten else [] by unfold madeF; rw [hb])
      clear hb
      go_wp2_with fail
      refine (rright39_any _ _ ls.flatten _ H.out.1.sl HFL.out).mono ?_
      rintro e w1 ⟨rfl, C1⟩
      rw [HB.out]
      have H1 := Lib.hid (H.out.then0 C1)
      clear C1
      cases b
      · go_wp2_with fail
        go_ret
        exact ⟨_, rfl, by rw [HM.out]; exact ⟨Own.nil _ _ _ _, H1.out.2⟩⟩
      · go_wp2_with fail
        go_ret
        exact ⟨_, rfl, by rw [HM.out]; exact H1.out⟩

theorem threeB_no {a b c : Int} (h : (ownB a = false ∨ ownB b = false ∨ ownB c = false) ∨ a = b ∨ b = c ∨ a = c) : threeB a b c = false := by
  unfold threeB
  rcases h with (h | h | h) | h | h | h <;> simp [h]
theorem threeB_yes {a b c : Int} (h1 : ownB a = true) (h2 : ownB b = true) (h3 : ownB c = true) (h4 : a ≠ b) (h5 : b ≠ c) (h6 : a ≠ c) : threeB a b c = true := by
  unfold threeB; simp [h1, h2, h3, h4, h5, h6]
def lockF (base imm t u : Int) : List In := if lockB base imm t u = true then lockL base imm t u else []
theorem ownB_no {n : Int} (h : n < 1 ∨ 15 < n) : ownB n = false := by unfold ownB; simp; omega
theorem ownB_yes {n : Int} (h : 1 ≤ n) (h2 : n ≤ 15) : ownB n = true := by unfold ownB; simp; omega
theorem ownB_in {n : Int} (h : ownB n = true) : 1 ≤ n ∧ n ≤ 15 := by unfold ownB at h; simp at h; omega
theorem okAt_row {n len : Nat} {i : In} (k : Kd) (h : kd i.op = k) (hz : k ≠ .z) (h1 : -2048 ≤ i.im ∧ i.im ≤ 2047) (h2 : okr i.rd k.d = true) (h3 : okr i.rs k.q = true) (h4 : okr i.rt k.t = true) (h5 : i.im = 0 ∨ k.i = true) (h6 : (k ≠ .B ∧ k ≠ .J) ∨ (0 ≤ (n : Int) + i.im ∧ (n : Int) + i.im ≤ len)) : okAt n len i = true := by
  unfold okAt rightB jumpB
  rw [h, h2, h3, h4]
  simp only [hz, decide_false, Bool.not_false, Bool.true_and, Bool.and_true]
  simp only [h1.1, h1.2, decide_true, Bool.true_and]
  have e5 : (decide (i.im = 0) || k.i) = true := by rcases h5 with h5 | h5 <;> simp [h5]
  rw [e5]
  rcases h6 with ⟨a, b⟩ | ⟨a, b⟩
  · simp [a, b]
  · simp [a, b]
theorem okr_own {n : Int} (h : ownB n = true) : okr n true = true := by have := ownB_in h; exact okr_of (fun _ => rfl) (by omega) (by omega)
theorem lockL_right {base imm t u : Int} (h : lockB base imm t u = true) : rightP (lockL base imm t u) = true := by
  unfold lockB at h
  rw [Bool.and_eq_true] at h
  obtain ⟨h, hf⟩ := h
  unfold threeB at h
  simp only [Bool.and_eq_true] at h
  obtain ⟨⟨⟨⟨⟨h1, h2⟩, h3⟩, -⟩, -⟩, -⟩ := h
  have hf' : -2048 ≤ imm ∧ imm ≤ 2047 := by unfold fitsB at hf; simpa using hf
  rw [rightP_iff]
  intro n i hi
  unfold lockL at hi
  rcases n with _ | _ | _ | _ | n
  · cases hi; exact okAt_row .RI rfl (by decide) hf' (okr_own h2) (okr_own h1) rfl (.inr rfl) (.inl (by decide))
  · cases hi; exact okAt_row .I rfl (by decide) (by constructor <;> simp) (okr_own h3) rfl rfl (.inr rfl) (.inl (by decide))
  · cases hi; exact okAt_row .A rfl (by decide) (by constructor <;> simp) (okr_own h3) (okr_own h2) (okr_own h3) (.inl rfl) (.inl (by decide))
  · cases hi; exact okAt_row .B rfl (by decide) (by constructor <;> simp) rfl (okr_own h3) rfl (.inr rfl) (.inr ⟨by simp, by simp [lockL]⟩)
  · simp at hi
theorem lockF_made {base imm t u : Int} (h : lockB base imm t u = true) : madeF (lockL base imm t u) = lockF base imm t u := by
  unfold madeF lockF
  rw [if_pos (lockL_right h), if_pos h]
theorem lockF_no {base imm t u : Int} (h : threeB base t u = false ∨ fitsB imm = false) : lockF base imm t u = [] := by
  unfold lockF lockB
  rcases h with h | h <;> simp [h]


set_option maxHeartbeats 4000000 in
set_option maxRecDepth 100000 in
theorem rlock_any (base imm t u : Int) (w : World) : Calls Try.prog 11 #[.int .i64 base, .int .i64 imm, .int .i64 t, .int .i64 u] w (RetSl fun v w' => IsNew w w' v (lockF base imm t u)) := by
  have B := Blk.new w #[.int .i64 base, .int .i64 t, .int .i64 u] 3
  have x0 := B.cell' (i := 0) (v := .int .i64 base) (by rfl)
  have x1 := B.cell' (i := 1) (v := .int .i64 t) (by rfl)
  have x2 := B.cell' (i := 2) (v := .int .i64 u) (by rfl)
  clear B
  go_enter Try.func11, Try.ntmps11
  go_wp2_with fail
  go_loopg [10, 16] 3 (fun m rr ix wr => ∃ n : Nat, n + m = 3 ∧ ix = .int .i64 n ∧ (∀ k, k < n → ownB (if k = 0 then base else if k = 1 then t else u) = true) ∧ wr = w.alloc (.cells #[.int .i64 base, .int .i64 t, .int .i64 u] 3))
  case atStart => exact ⟨0, by omega, rfl, fun k hk => by omega, rfl⟩
  case round =>
    obtain ⟨n, hn, rfl, hp, rfl⟩ := hrel
    have HP := Lib.hid hp
    have HN := Lib.hid hn
    have hn3 : n ≤ 3 := by omega
    clear hn hp
    rcases (by omega : n = 0 ∨ n = 1 ∨ n = 2 ∨ n = 3) with rfl | rfl | rfl | rfl
    ·
      -- register base at place 0
      by_cases h1 : base < 1
      · have t1 : decide (base < 1) = true := by simp; omega
        have H1 := Lib.hid h1
        clear h1
        go_wp2_with fail
        go_ret
        exact ⟨_, rfl, by rw [lockF_no (.inl (threeB_no (.inl (.inl (ownB_no (.inl H1.out))))))]; exact ⟨Own.nil _ _ _ _, (Chg.refl _ _).alloc _⟩⟩
      · have t1 : decide (base < 1) = false := by simp; omega
        by_cases h2 : 15 < base
        · have t2 : decide (15 < base) = true := by simp; omega
          have H1 := Lib.hid h2
          clear h1 h2
          go_wp2_with fail
          go_ret
          exact ⟨_, rfl, by rw [lockF_no (.inl (threeB_no (.inl (.inl (ownB_no (.inr H1.out))))))]; exact ⟨Own.nil _ _ _ _, (Chg.refl _ _).alloc _⟩⟩
        · have t2 : decide (15 < base) = false := by simp; omega
          have hy : ownB base = true := ownB_yes (by omega) (by omega)
          have HY := Lib.hid hy
          clear h1 h2 hy
          go_wp2_with fail
          go_roundg (3 - (0 + 1))
          case measure => have := HN.out; omega
          case rel => exact ⟨0 + 1, by have := HN.out; omega, by go_num, (fun k hk => by obtain rfl : k = 0 := (by omega); exact HY.out), rfl⟩
    ·
      -- register t at place 1
      by_cases h1 : t < 1
      · have t1 : decide (t < 1) = true := by simp; omega
        have H1 := Lib.hid h1
        clear h1
        go_wp2_with fail
        go_ret
        exact ⟨_, rfl, by rw [lockF_no (.inl (threeB_no (.inl (.inr (.inl (ownB_no (.inl H1.out)))))))]; exact ⟨Own.nil _ _ _ _, (Chg.refl _ _).alloc _⟩⟩
      · have t1 : decide (t < 1) = false := by simp; omega
        by_cases h2 : 15 < t
        · have t2 : decide (15 < t) = true := by simp; omega
          have H1 := Lib.hid h2
          clear h1 h2
          go_wp2_with fail
          go_ret
          exact ⟨_, rfl, by rw [lockF_no (.inl (threeB_no (.inl (.inr (.inl (ownB_no (.inr H1.out)))))))]; exact ⟨Own.nil _ _ _ _, (Chg.refl _ _).alloc _⟩⟩
        · have t2 : decide (15 < t) = false := by simp; omega
          have hy : ownB t = true := ownB_yes (by omega) (by omega)
          have HY := Lib.hid hy
          clear h1 h2 hy
          go_wp2_with fail
          go_roundg (3 - (1 + 1))
          case measure => have := HN.out; omega
          case rel => exact ⟨1 + 1, by have := HN.out; omega, by go_num, (fun k hk => by rcases (by omega : k < 1 ∨ k = 1) with h | rfl; exact HP.out k h; exact HY.out), rfl⟩
    ·
      -- register u at place 2
      by_cases h1 : u < 1
      · have t1 : decide (u < 1) = true := by simp; omega
        have H1 := Lib.hid h1
        clear h1
        go_wp2_with fail
        go_ret
        exact ⟨_, rfl, by rw [lockF_no (.inl (threeB_no (.inl (.inr (.inr (ownB_no (.inl H1.out)))))))]; exact ⟨Own.nil _ _ _ _, (Chg.refl _ _).alloc _⟩⟩
      · have t1 : decide (u < 1) = false := by simp; omega
        by_cases h2 : 15 < u
        · have t2 : decide (15 < u) = true := by simp; omega
          have H1 := Lib.hid h2
          clear h1 h2
          go_wp2_with fail
          go_ret
          exact ⟨_, rfl, by rw [lockF_no (.inl (threeB_no (.inl (.inr (.inr (ownB_no (.inr H1.out)))))))]; exact ⟨Own.nil _ _ _ _, (Chg.refl _ _).alloc _⟩⟩
        · have t2 : decide (15 < u) = false := by simp; omega
          have hy : ownB u = true := ownB_yes (by omega) (by omega)
          have HY := Lib.hid hy
          clear h1 h2 hy
          go_wp2_with fail
          go_roundg (3 - (2 + 1))
          case measure => have := HN.out; omega
          case rel => exact ⟨2 + 1, by have := HN.out; omega, by go_num, (fun k hk => by rcases (by omega : k < 2 ∨ k = 2) with h | rfl; exact HP.out k h; exact HY.out), rfl⟩
    · have o1 : ownB base = true := HP.out 0 (by omega)
      have o2 : ownB t = true := HP.out 1 (by omega)
      have o3 : ownB u = true := HP.out 2 (by omega)
      have O := Lib.hid (And.intro o1 (And.intro o2 o3))
      clear o1 o2 o3 x0 x1 x2
      by_cases e1 : base = t
      · have t1 : (base == t) = true := by simp [e1]
        have E := Lib.hid e1
        clear e1
        go_wp2_with fail
        go_ret
        exact ⟨_, rfl, by rw [lockF_no (.inl (threeB_no (.inr (.inl E.out))))]; exact ⟨Own.nil _ _ _ _, (Chg.refl _ _).alloc _⟩⟩
      · have t1 : (base == t) = false := by simp [e1]
        have E1 := Lib.hid e1
        clear e1
        by_cases e2 : base = u
        · have t2 : (base == u) = true := by simp [e2]
          have E := Lib.hid e2
          clear e2
          go_wp2_with fail
          go_ret
          exact ⟨_, rfl, by rw [lockF_no (.inl (threeB_no (.inr (.inr (.inr E.out)))))]; exact ⟨Own.nil _ _ _ _, (Chg.refl _ _).alloc _⟩⟩
        · have t2 : (base == u) = false := by simp [e2]
          have E2 := Lib.hid e2
          clear e2
          by_cases e3 : t = u
          · have t3 : (t == u) = true := by simp [e3]
            have E := Lib.hid e3
            clear e3
            go_wp2_with fail
            go_ret
            exact ⟨_, rfl, by rw [lockF_no (.inl (threeB_no (.inr (.inr (.inl E.out)))))]; exact ⟨Own.nil _ _ _ _, (Chg.refl _ _).alloc _⟩⟩
          · have t3 : (t == u) = false := by simp [e3]
            have E3 := Lib.hid e3
            clear e3
            by_cases e4 : imm < -2048
            · have t4 : decide (imm < -2048) = true := by simp; omega
              have E := Lib.hid e4
              clear e4
              go_wp2_with fail
              go_ret
              exact ⟨_, rfl, by rw [lockF_no (.inr (by unfold fitsB; have := E.out; simp; omega))]; exact ⟨Own.nil _ _ _ _, (Chg.refl _ _).alloc _⟩⟩
            · have t4 : decide (imm < -2048) = false := by simp; omega
              have E4 := Lib.hid e4
              clear e4
              by_cases e5 : 2047 < imm
              · have t5 : decide (2047 < imm) = true := by simp; omega
                have E := Lib.hid e5
                clear e5
                go_wp2_with fail
                go_ret
                exact ⟨_, rfl, by rw [lockF_no (.inr (by unfold fitsB; have := E.out; simp; omega))]; exact ⟨Own.nil _ _ _ _, (Chg.refl _ _).alloc _⟩⟩
              · have t5 : decide (2047 < imm) = false := by simp; omega
                have E5 := Lib.hid e5
                clear e5
                have LB := Lib.hid (show lockB base imm t u = true by
                  unfold lockB
                  rw [threeB_yes O.out.1 O.out.2.1 O.out.2.2 E1.out E3.out E2.out]
                  unfold fitsB; have := E4.out; have := E5.out; simp; omega)
                have A0 := Lib.hid ((Chg.refl NoB w).alloc (.cells #[.int .i64 base, .int .i64 t, .int .i64 u] 3))
                go_wp2_with fail
                refine (one_any _ _ _ _ _ _).mono ?_
                rintro e w1 ⟨v1, rfl, N1⟩
                obtain ⟨p1, c1, e⟩ := N1.1.form
                subst e
                have N1 := Lib.hid N1
                go_wp2_with fail
                refine (one_any _ _ _ _ _ _).mono ?_
                rintro e w2 ⟨v2, rfl, N2⟩
                obtain ⟨p2, c2, e⟩ := N2.1.form
                subst e
                have N2 := Lib.hid N2
                go_wp2_with fail
                refine (one_any _ _ _ _ _ _).mono ?_
                rintro e w3 ⟨v3, rfl, N3⟩
                obtain ⟨p3, c3, e⟩ := N3.1.form
                subst e
                have N3 := Lib.hid N3
                go_wp2_with fail
                refine (one_any _ _ _ _ _ _).mono ?_
                rintro e w4 ⟨v4, rfl, N4⟩
                obtain ⟨p4, c4, e⟩ := N4.1.form
                subst e
                have N4 := Lib.hid N4
                go_wp2_with fail
                have C14 := (N2.out.2.step N3.out.2).step N4.out.2
                have C24 := N3.out.2.step N4.out.2
                have D5 := (Chg.refl NoB w4).alloc (.cells #[.slice p1 [(⟨2, t, base, 0, imm⟩ : In)].length c1, .slice p2 [(⟨1, u, 0, 0, 1⟩ : In)].length c2, .slice p3 [(⟨31, u, t, u, 0⟩ : In)].length c3, .slice p4 [(⟨16, 0, u, 0, -2⟩ : In)].length c4] 23)
                have hR := PRows.cons ((N1.out.1.sl.chg0 C14).chg0 D5) (PRows.cons ((N2.out.1.sl.chg0 C24).chg0 D5) (PRows.cons ((N3.out.1.sl.chg0 N4.out.2).chg0 D5) (PRows.cons (N4.out.1.sl.chg0 D5) (PRows.nil _))))
                refine (join_any _ _ _ _ _ (Sl.fresh w4 [.slice p1 [(⟨2, t, base, 0, imm⟩ : In)].length c1, .slice p2 [(⟨1, u, 0, 0, 1⟩ : In)].length c2, .slice p3 [(⟨31, u, t, u, 0⟩ : In)].length c3, .slice p4 [(⟨16, 0, u, 0, -2⟩ : In)].length c4] 23 4 rfl) hR (by simp) (by simp)).mono ?_
                rintro e w6 ⟨v6, rfl, N6⟩
                have N6 := Lib.hid (show IsNew w4 w6 v6 (lockF base imm t u) by rw [← lockF_made LB.out]; exact N6.from D5)
                clear C14 C24 D5 hR
                go_wp2_with fail
                go_ret
                exact ⟨_, rfl, N6.out.from (((A0.out.step N1.out.2).step N2.out.2).step (N3.out.2.step N4.out.2))⟩
end Go.Proofs.Ytdkplhdinklflaa
