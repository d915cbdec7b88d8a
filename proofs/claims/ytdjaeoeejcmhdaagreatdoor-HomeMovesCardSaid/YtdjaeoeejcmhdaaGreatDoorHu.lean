/- Homes that talk: a home and its pages; the page of a number. No condition. Homes that talk: a node's view of its pages; a message is taken. No condition. -/
import Derived.Test.YtdjaeoeejcmhdaaGreatDoorHt
import Derived.Test.YtdjaeoeejcmhdaaGreatDoorHc
import Derived.Test.YtdjaeoeejcmhdaaGreatDoorHq
import Derived.Test.YtdjaeoeejcmhdaaGreatDoorHr
import Derived.Test.YtdjaeoeejcmhdaaGreatDoorHe
set_option linter.unusedVariables false
set_option linter.unusedSimpArgs false
namespace Go.Proofs.YtdjaeoeejcmhdaaGreatDoor
open Go.RowKit Go.RR
/-- A home: its pages, by number, place, state; each page's ring. -/
structure HmN (w : World) (S : Nat → Prop) (hb spb : Nat) (me n pv sh : Int) (ps : List (Int × Nat × PgS)) : Prop where
  s : S hb
  ex : ∃ mb, S mb ∧ Blk w hb #[.int .i64 me, .int .i64 n, .pointer (some ⟨spb, 0, none⟩), .int .i64 1, .int .i64 pv, .int .i64 sh, .map (some mb)] 68 ∧ MapAt w mb .i64 (ps.map fun p => (p.1, .pointer (some ⟨p.2.1, 0, none⟩))) ∧ Stm w mb
  pg : ∃ R : Nat → Nat, (∀ p ∈ ps, S p.2.1 ∧ S (R p.2.1) ∧ Blk w p.2.1 (pgCx me p.1 p.2.2 (R p.2.1) (.slice none 0 0) false) 128 ∧ Blk w (R p.2.1) ringC 201) ∧ ∀ p ∈ ps, ∀ q ∈ ps, R p.2.1 = R q.2.1 → p.2.1 = q.2.1
  nd : (ps.map (·.2.1)).Nodup
  kn : ∀ p ∈ ps, 0 ≤ p.1 ∧ p.1 < sh
  nk : (ps.map (·.1)).Nodup
theorem nk_app {ps : List (Int × Nat × PgS)} {num : Int} {x : Nat × PgS} (h : (ps.map (·.1)).Nodup) (hn : hLook ps num = none) : ((ps ++ [(num, x)]).map (·.1)).Nodup := by
  rw [List.map_append, List.nodup_append]
  refine ⟨h, by simp, fun a ha b hb e => ?_⟩
  obtain ⟨p, hp, rfl⟩ := List.mem_map.1 ha
  have hb : b = num := by simpa using hb
  unfold hLook at hn
  rw [Option.map_eq_none_iff, List.find?_eq_none] at hn
  exact hn p hp (by simp [e, hb])
theorem nk_put {ps : List (Int × Nat × PgS)} (h : (ps.map (·.1)).Nodup) (pb : Nat) (s : PgS) : ((hPut ps pb s).map (·.1)).Nodup := by
  have e : (hPut ps pb s).map (·.1) = ps.map (·.1) := by
    unfold hPut
    rw [List.map_map]
    refine List.map_congr_left fun p _ => ?_
    show (if p.2.1 = pb then (p.1, p.2.1, s) else p).1 = _
    split <;> rfl
  rw [e]
  exact h
theorem HmN.chg {w w' : World} {S S' : Nat → Prop} {hb spb : Nat} {me n pv sh : Int} {ps : List (Int × Nat × PgS)} (h : HmN w S hb spb me n pv sh ps) (c : Chg S' w w') (hs : ∀ k, S k → ¬ S' k) : HmN w' S hb spb me n pv sh ps := by
  obtain ⟨mb, h1, h2, h3, h4⟩ := h.ex
  obtain ⟨R, r1, r2⟩ := h.pg
  exact ⟨h.s, ⟨mb, h1, c.blk h2 (hs _ h.s), h3.chg c (hs _ h1), h4.chg c (hs _ h1)⟩, ⟨R, fun p hp => by obtain ⟨a, b, d, e⟩ := r1 p hp; exact ⟨a, b, c.blk d (hs _ a), c.blk e (hs _ b)⟩, r2⟩, h.nd, h.kn, h.nk⟩
theorem HmN.chg0 {w w' : World} {S : Nat → Prop} {hb spb : Nat} {me n pv sh : Int} {ps : List (Int × Nat × PgS)} (h : HmN w S hb spb me n pv sh ps) (c : Chg NoB w w') : HmN w' S hb spb me n pv sh ps := h.chg c fun _ _ => id
theorem HmN.mono {w : World} {S S' : Nat → Prop} {hb spb : Nat} {me n pv sh : Int} {ps : List (Int × Nat × PgS)} (h : HmN w S hb spb me n pv sh ps) (hs : ∀ k, S k → S' k) : HmN w S' hb spb me n pv sh ps := by
  obtain ⟨mb, h1, h2⟩ := h.ex
  obtain ⟨R, r1, r2⟩ := h.pg
  exact ⟨hs _ h.s, ⟨mb, hs _ h1, h2⟩, ⟨R, fun p hp => ⟨hs _ (r1 p hp).1, hs _ (r1 p hp).2.1, (r1 p hp).2.2⟩, r2⟩, h.nd, h.kn, h.nk⟩
set_option maxHeartbeats 2000000 in
set_option maxRecDepth 100000 in
theorem hpage_n {w : World} {S : Nat → Prop} {hb spb : Nat} {me n pv sh : Int} {ps : List (Int × Nat × PgS)} (a : HmN w S hb spb me n pv sh ps) (bd : ∀ k, S k → k < w.heap.size) (num : Int) (h0 : 0 ≤ num) (h1 : num < sh) (hn : 2 ≤ n) (hn2 : n ≤ 16) (hs : sh ≤ 65536) :
    Calls Tryz.prog 20 #[.pointer (some ⟨hb, 0, none⟩), .int .i64 num] w (RetV fun v w' => ∃ (pb : Nat) (st : PgS) (ps' : List (Int × Nat × PgS)) (S' : Nat → Prop), v = .pointer (some ⟨pb, 0, none⟩) ∧ HmN w' S' hb spb me n pv sh ps' ∧ hLook ps' num = some (pb, st) ∧
      ((ps' = ps ∧ hLook ps num = some (pb, st)) ∨ (hLook ps num = none ∧ st = pgNewF me (num % n) ∧ ps' = ps ++ [(num, pb, st)])) ∧ (∀ k, S' k → S k ∨ w.heap.size ≤ k) ∧ (∀ k, S' k → k < w'.heap.size) ∧ Chg S w w') := by
  obtain ⟨mb, hmS, hB, hM, hSt⟩ := a.ex
  have e0 := hB.cell' (i := 0) (v := .int .i64 me) rfl
  have e1 := hB.cell' (i := 1) (v := .int .i64 n) rfl
  have e5 := hB.cell' (i := 5) (v := .int .i64 sh) rfl
  have e6 := hB.cell' (i := 6) (v := .map (some mb)) rfl
  have el := hB.lt
  have t0 : decide (num < 0) = false := decide_eq_false (by omega)
  have t1 : decide (sh ≤ num) = false := decide_eq_false (by omega)
  obtain ⟨i0, hi0, hz0, hz1, hz2⟩ := info_parts PPinfo3
  have hl := run_look1 (P := Tryz.prog) Tryz.underlying66 Tryz.underlying3 hi0 hz0 hM num
  rw [hlook2] at hl
  have HA := Lib.hid a
  have HBd := Lib.hid bd
  have HN := Lib.hid (And.intro h0 (And.intro h1 (And.intro hn (And.intro hn2 hs))))
  cases hf : hLook ps num with
  | some x =>
    rw [hf] at hl
    obtain ⟨pb, st⟩ := x
    have HF := Lib.hid hf
    simp only [Option.map_some, Option.getD_some] at hl
    clear a h0 h1 hn hn2 hs hi0 hz0 hz1 hz2 hf bd hB hM hSt hmS
    go_enter Tryz.func20, Tryz.ntmps20
    go_wp2_with fail
    go_ret
    exact ⟨_, rfl, pb, st, ps, S, rfl, HA.out, HF.out, .inl ⟨rfl, rfl⟩, fun k hk => .inl hk, HBd.out, Chg.refl _ _⟩
  | none =>
    rw [hf] at hl
    simp only [Option.map_none, Option.getD_none] at hl
    have HF := Lib.hid hf
    have HB := Lib.hid hB
    have HM := Lib.hid (And.intro hM (And.intro hSt hmS))
    clear a h0 h1 hn hn2 hs hi0 hz0 hz1 hz2 hf bd hB hM hSt hmS
    go_enter Tryz.func20, Tryz.ntmps20
    go_upto_region 5 with fail
    have q0 : n ≠ 0 := by have := HN.out.2.2.1; omega
    have q0' : (n == 0) = false := by simpa using q0
    have q1 : IntKind.i64.wrap (num.tmod n) = num % n := by
      have := HN.out
      rw [Int.tmod_eq_emod_of_nonneg this.1]
      have h2 := Int.emod_lt_of_pos num (b := n) (by omega)
      have h3 := Int.emod_nonneg num q0
      exact IntWalk.i64_in _ (by omega)
    have g0 : ∀ w', Chg NoB w w' → w'.cell? ⟨hb, 0, none⟩ = some (.int .i64 me) := fun w' c => (c.blk0 HB.out).cell' (i := 0) rfl
    have g1 : ∀ w', Chg NoB w w' → w'.cell? ⟨hb, 1, none⟩ = some (.int .i64 n) := fun w' c => (c.blk0 HB.out).cell' (i := 1) rfl
    have gl : ∀ w', Chg NoB w w' → hb < w'.heap.size := fun w' c => (c.blk0 HB.out).lt
    clear e0 e1 e5 e6 el hl
    refine wp_region_mix 12 [(true, 0), (true, 1), (true, 2), (true, 3), (true, 4), (true, 5), (true, 6), (true, 7), (true, 8), (true, 9), (true, 10), (false, 11)] (fun w' => Chg NoB w w') (by kernel_rfl) (by kernel_rfl) (fun _ _ _ _ _ h => h) ((Chg.refl NoB w).drew) ?_
    simp only [pickMix_nil, pickMix_cons, Option.getD_some, List.getElem?_toArray, List.getElem?_cons_zero, List.getElem?_cons_succ, List.cons_append, List.nil_append, List.drop_succ_cons, List.drop_zero]
    iterate 11
     refine wpMix_take rfl ?_
     apply Exists.intro
     refine ⟨fun wS hS => ?_, ?_⟩
     · try dsimp only at hS
       have cS := hS
       go_simp
       try rfl
     simp only [Act.put, List.setIfInBounds_toArray, List.set_cons_zero, List.set_cons_succ]
    refine wpMix_force rfl (fun K hK => ?_)
    go_simp
    refine (pageNew_any _ _ _ _).mono ?_
    rintro e w2 ⟨v, rfl, pb, rb, rfl, l1, l2, hP, hC⟩
    have C2 : Chg NoB w w2 := (Chg.refl NoB w).drew.step hC
    have HP := Lib.hid hP
    have HL := Lib.hid (And.intro l1 l2)
    refine hK _ _ C2 ?_
    clear hK K hP hC l1 l2
    refine wpMix_nil ?_
    have hA2 := HA.out.chg0 C2
    have hB2 := C2.blk0 HB.out
    have e6 := hB2.cell' (i := 6) (v := .map (some mb)) rfl
    have el := hB2.lt
    have hM := HM.out.1.chg C2 id
    have hSt := HM.out.2.1.chg C2 id
    have HA2 := Lib.hid hA2
    have HC2 := Lib.hid C2
    have HSt2 := Lib.hid hSt
    clear g0 g1 gl q0 q0' q1 C2 hA2 hB2 hSt
    have HMN : Hid (mlook (ps.map fun p => (p.1, Value.pointer (some ⟨p.2.1, 0, none⟩))) num = none) := Lib.hid (by rw [hlook2, HF.out]; rfl)
    have HM2 := Lib.hid hM
    go_wp2_with (refine wpList_mapput_new rfl _ _ _ 66 3 74 rfl Tryz.underlying66 Tryz.underlying3 rfl hM HSt2.out num HMN.out rfl (.pointer (some ⟨pb, 0, none⟩)) rfl ?_)
    intro w3 hM3 hSt3 C3
    have HM3 := Lib.hid hM3
    have HSt3 := Lib.hid hSt3
    have HC3 := Lib.hid C3
    clear hM3 C3 e6 el hM hSt3
    go_wp2_with fail
    go_ret
    have hP := HP.out
    rw [Int.tmod_eq_emod_of_nonneg HN.out.1] at hP
    have ne1 : ∀ {c : Nat} {cs : Array Value} {T : TypeId}, Blk w2 c cs T → ¬ c = mb := fun hb => mapAt_ne HM2.out hb
    have hz : w.heap.size ≤ w2.heap.size := HC2.out.size
    have hz3 : w2.heap.size ≤ w3.heap.size := HC3.out.size
    have hpb := hP.blk.lt
    have hrb := hP.ring.lt
    obtain ⟨R, r1, r2⟩ := HA2.out.pg
    have rlt : ∀ p ∈ ps, p.2.1 < w.heap.size ∧ R p.2.1 < w.heap.size := fun p hp => ⟨HBd.out _ (r1 p hp).1, HBd.out _ (r1 p hp).2.1⟩
    have hl1 : w.heap.size ≤ pb := HL.out.1
    have hl2 : w.heap.size ≤ rb := HL.out.2
    have R0 : ∀ p ∈ ps, (if p.2.1 = pb then rb else R p.2.1) = R p.2.1 := fun p hp => if_neg fun e => by have := (rlt p hp).1; omega
    refine ⟨_, rfl, pb, pgNewF me (num % n), ps ++ [(num, pb, pgNewF me (num % n))], fun k => S k ∨ k = pb ∨ k = rb, rfl, ⟨.inl HA.out.s, ⟨mb, .inl HM.out.2.2, HC3.out.blk (HC2.out.blk0 HB.out) (ne1 (HC2.out.blk0 HB.out)), ?_, HSt3.out⟩, ⟨fun b => if b = pb then rb else R b, fun p hp => ?_, fun p hp q hq e => ?_⟩, ?_, fun p hp => (List.mem_append.1 hp).elim (HA2.out.kn p) fun hp => by rw [List.mem_singleton.1 hp]; exact ⟨HN.out.1, HN.out.2.1⟩, nk_app HA2.out.nk HF.out⟩, hLook_app HF.out _, .inr ⟨by trivial, rfl, rfl⟩, fun k hk => ?_, fun k hk => ?_, ?_⟩
    · rw [List.map_append]
      exact HM3.out
    · rcases List.mem_append.1 hp with hp | hp
      · obtain ⟨x1, x2, x3, x4⟩ := r1 p hp
        dsimp only
        rw [R0 p hp]
        exact ⟨.inl x1, .inl x2, HC3.out.blk x3 (ne1 x3), HC3.out.blk x4 (ne1 x4)⟩
      · rw [List.mem_singleton.1 hp]
        have e0 : (if pb = pb then rb else R pb) = rb := if_pos rfl
        dsimp only
        rw [e0]
        exact ⟨.inr (.inl rfl), .inr (.inr rfl), HC3.out.blk hP.blk (ne1 hP.blk), HC3.out.blk hP.ring (ne1 hP.ring)⟩
    · rcases List.mem_append.1 hp with hp | hp <;> rcases List.mem_append.1 hq with hq | hq
      · try dsimp only at e
        rw [R0 p hp, R0 q hq] at e
        exact r2 p hp q hq e
      · rw [List.mem_singleton.1 hq] at e ⊢
        try dsimp only at e
        rw [R0 p hp, if_pos rfl] at e
        have := (rlt p hp).2
        omega
      · rw [List.mem_singleton.1 hp] at e ⊢
        try dsimp only at e
        rw [R0 q hq, if_pos rfl] at e
        have := (rlt q hq).2
        omega
      · rw [List.mem_singleton.1 hp, List.mem_singleton.1 hq]
    · rw [List.map_append, List.nodup_append]
      refine ⟨HA2.out.nd, by simp, fun x hx y hy => ?_⟩
      obtain ⟨p, hp, rfl⟩ := List.mem_map.1 hx
      have hy : y = pb := by simpa using hy
      have := (rlt p hp).1
      show p.2.1 ≠ y
      omega
    · rcases hk with hk | hk | hk
      · exact .inl hk
      · rw [hk]; exact .inr hl1
      · rw [hk]; exact .inr hl2
    · rcases hk with hk | hk | hk
      · have := HBd.out k hk; omega
      · omega
      · omega
    · exact (HC2.out.mono (S' := S) fun _ _ e => e.elim).trans HC3.out fun k hk e => by have e : k = mb := e; rw [e]; exact HM.out.2.2
/-- A page of a home has had its turn. -/
theorem HmN.put {w w' : World} {S : Nat → Prop} {hb spb : Nat} {me n pv sh : Int} {ps : List (Int × Nat × PgS)} (h : HmN w S hb spb me n pv sh ps) (bd : ∀ k, S k → k < w.heap.size) {num : Int} {pb : Nat} {s s' : PgS} (hp : (num, pb, s) ∈ ps) {SP S2 : Nat → Prop} (hSP : ∀ k, SP k → k = pb ∨ ∃ R : Nat, Blk w pb (pgCx me num s R (.slice none 0 0) false) 128 ∧ k = R) (hS2 : ∀ k, S2 k → SP k ∨ w.heap.size ≤ k) (hP : PgN w' S2 pb me num s') (c : Chg SP w w') (hlt : ∀ k, S2 k → k < w'.heap.size) :
    HmN w' (fun k => S k ∨ (w.heap.size ≤ k ∧ k < w'.heap.size ∧ S2 k)) hb spb me n pv sh (hPut ps pb s') := by
  obtain ⟨mb, h1, h2, h3, h4⟩ := h.ex
  obtain ⟨R, r1, r2⟩ := h.pg
  obtain ⟨rb, q1, q2, q3⟩ := hP.ex
  obtain ⟨y1, y2, y3, y4⟩ := r1 _ hp
  have hSP' : ∀ k, SP k → k = pb ∨ k = R pb := fun k hk => by
    rcases hSP k hk with e | ⟨R', e1, e2⟩
    · exact .inl e
    · right
      have := (e1.inj y3).1
      have := congrArg (fun a : Array Value => a[11]?) this
      simp [pgCx] at this
      rw [e2, this]
  have nhb : ¬ SP hb := fun e => by
    rcases hSP' _ e with e | e
    · rw [e] at h2; exact absurd (h2.inj y3).2 (by decide)
    · rw [e] at h2; exact absurd (h2.inj y4).2 (by decide)
  have nmb : ¬ SP mb := fun e => by
    rcases hSP' _ e with e | e
    · exact mapAt_ne h3 y3 e.symm
    · exact mapAt_ne h3 y4 e.symm
  have rbS : rb = R pb ∨ w.heap.size ≤ rb := by
    rcases hS2 _ q1 with e | e
    · rcases hSP' _ e with e | e
      · rw [e] at q3; exact absurd (q3.inj q2).2 (by decide)
      · exact .inl e
    · exact .inr e
  have hkey : ∀ p ∈ ps, p.2.1 = pb → p = (num, pb, s) := fun p hp' e => nodup_inj h.nd hp' hp e
  refine ⟨.inl h.s, ⟨mb, .inl h1, c.blk h2 nhb, ?_, h4.chg c nmb⟩, ⟨fun b => if b = pb then rb else R b, fun p hp' => ?_, fun p hp' q hq' e => ?_⟩, ?_, fun p hp' => ?_, nk_put h.nk pb s'⟩
  · have e : (hPut ps pb s').map (fun p => (p.1, Value.pointer (some ⟨p.2.1, 0, none⟩))) = ps.map fun p => (p.1, Value.pointer (some ⟨p.2.1, 0, none⟩)) := by
      unfold hPut
      rw [List.map_map]
      refine List.map_congr_left fun p _ => ?_
      show ((if p.2.1 = pb then (p.1, p.2.1, s') else p).1, Value.pointer (some ⟨(if p.2.1 = pb then (p.1, p.2.1, s') else p).2.1, 0, none⟩)) = _
      split <;> rfl
    rw [e]
    exact h3.chg c nmb
  · obtain ⟨q, hq, rfl⟩ := List.mem_map.1 hp'
    by_cases e : q.2.1 = pb
    · have hq' := hkey q hq e
      subst hq'
      rw [if_pos rfl]
      have e0 : (if pb = pb then rb else R pb) = rb := if_pos rfl
      dsimp only
      rw [e0]
      refine ⟨.inl y1, ?_, q2, q3⟩
      rcases rbS with e | e
      · exact .inl (by rw [e]; exact y2)
      · exact .inr ⟨e, hlt _ q1, q1⟩
    · obtain ⟨x1, x2, x3, x4⟩ := r1 q hq
      rw [if_neg e]
      dsimp only
      rw [if_neg e]
      refine ⟨.inl x1, .inl x2, c.blk x3 fun hk => ?_, c.blk x4 fun hk => ?_⟩
      · rcases hSP' _ hk with e' | e'
        · exact e e'
        · rw [e'] at x3; exact absurd (x3.inj y4).2 (by decide)
      · rcases hSP' _ hk with e' | e'
        · rw [e'] at x4; exact absurd (x4.inj y3).2 (by decide)
        · exact e (r2 q hq _ hp e')
  · have key : ∀ x ∈ hPut ps pb s', ∃ y ∈ ps, y.2.1 = x.2.1 := fun x hx => by
      obtain ⟨y, hy, rfl⟩ := List.mem_map.1 hx
      refine ⟨y, hy, ?_⟩
      split <;> rfl
    obtain ⟨x, hx, ex⟩ := key p hp'
    obtain ⟨y, hy, ey⟩ := key q hq'
    try dsimp only at e
    rw [← ex, ← ey] at e ⊢
    have lt : ∀ z ∈ ps, R z.2.1 < w.heap.size := fun z hz => bd _ (r1 z hz).2.1
    by_cases e1 : x.2.1 = pb
    · by_cases e2 : y.2.1 = pb
      · rw [e1, e2]
      · rw [if_pos e1, if_neg e2] at e
        exfalso
        rcases rbS with e3 | e3
        · exact e2 (r2 y hy _ hp (e.symm.trans e3))
        · have := lt y hy; omega
    · by_cases e2 : y.2.1 = pb
      · rw [if_neg e1, if_pos e2] at e
        exfalso
        rcases rbS with e3 | e3
        · exact e1 (r2 x hx _ hp (e.trans e3))
        · have := lt x hx; omega
      · rw [if_neg e1, if_neg e2] at e
        exact r2 x hx y hy e
  · have e : (hPut ps pb s').map (·.2.1) = ps.map (·.2.1) := by
      unfold hPut
      rw [List.map_map]
      refine List.map_congr_left fun p _ => ?_
      show (if p.2.1 = pb then (p.1, p.2.1, s') else p).2.1 = _
      split <;> rfl
    rw [e]
    exact h.nd
  · obtain ⟨q, hq, rfl⟩ := List.mem_map.1 hp'
    have := h.kn q hq
    split <;> exact this
end Go.Proofs.YtdjaeoeejcmhdaaGreatDoor
set_option linter.unusedVariables false
set_option linter.unusedSimpArgs false
namespace Go.Proofs.YtdjaeoeejcmhdaaGreatDoor
open Go.RowKit Go.RR
/-- The state of a page at a home. -/
def pst (ps : List (Int × Nat × PgS)) (me n p : Nat) : PgS := match hLook ps p with | some x => x.2 | none => pgNewF me ((p : Int) % n)
theorem pst_some {ps : List (Int × Nat × PgS)} {me n p pb : Nat} {st : PgS} (h : hLook ps p = some (pb, st)) : pst ps me n p = st := by unfold pst; rw [h]
theorem pst_app {ps : List (Int × Nat × PgS)} {me n p : Nat} {pb : Nat} (h : hLook ps p = none) (q : Nat) : pst (ps ++ [((p : Int), pb, pgNewF me ((p : Int) % n))]) me n q = pst ps me n q := by
  unfold pst hLook
  rw [List.find?_append]
  cases hq : ps.find? fun x => x.1 == (q : Int) with
  | some x => rfl
  | none =>
    rw [Option.none_or]
    by_cases e : p = q
    · subst e
      rw [List.find?_cons_of_pos (by simp)]
      rfl
    · rw [List.find?_cons_of_neg (by simp; omega)]
      rfl
theorem pst_put {ps : List (Int × Nat × PgS)} {me n p pb : Nat} {st st' : PgS} (h : hLook ps p = some (pb, st)) (nd : (ps.map (·.2.1)).Nodup) (q : Nat) : pst (hPut ps pb st') me n q = if q = p then st' else pst ps me n q := by
  by_cases e : q = p
  · subst e
    rw [if_pos rfl]
    exact pst_some (hLook_put h st')
  · rw [if_neg e]
    unfold pst hLook
    unfold hPut
    rw [List.find?_map]
    have ef : ((fun x : Int × Nat × PgS => x.1 == (q : Int)) ∘ fun p : Int × Nat × PgS => if p.2.1 = pb then (p.1, p.2.1, st') else p) = fun x => x.1 == (q : Int) := by
      funext x
      show ((if x.2.1 = pb then (x.1, x.2.1, st') else x).1 == _) = _
      split <;> rfl
    rw [ef]
    cases hq : ps.find? fun x => x.1 == (q : Int) with
    | none => rfl
    | some x =>
      have hx := List.mem_of_find?_eq_some hq
      have k1 := List.find?_some hq
      simp only [beq_iff_eq] at k1
      have hne : x.2.1 ≠ pb := fun e2 => by
        have := nodup_inj nd hx (hLook_mem h) e2
        rw [this] at k1
        exact e (Int.ofNat.inj k1).symm
      show (if x.2.1 = pb then (x.1, x.2.1, st') else x).2.2 = x.2.2
      rw [if_neg hne]
theorem SV.congr {s : Spc} {rt rt' : Nat → Int} {ct ct' : Nat → By} (h : SV s rt ct) (h1 : ∀ p : Nat, p < 2 → rt p = rt' p) (h2 : ∀ p : Nat, p < 2 → ∀ i, i < 4096 → ct p i = ct' p i) : SV s rt' ct' :=
  ⟨h.inv, h.shape, fun p hp => (h.right p hp).trans (h1 p hp), fun p hp => h1 p hp ▸ h.rng p hp, fun p hp i hi => (h.ct p hp i hi).trans (h2 p hp i hi)⟩
theorem trimN_congr {c c' : By} : ∀ n : Nat, (∀ i, i < n → c i = c' i) → trimN c n = trimN c' n
  | 0, _ => rfl
  | n + 1, h => by
    unfold trimN
    rw [h n (by omega), trimN_congr n fun i hi => h i (by omega)]
theorem datW_congr {w : World} {S : Nat → Prop} {v : Value} {c c' : By} (h : ∀ i, i < 4096 → c i = c' i) (hb : ByOk c') (H : DatW w S v (some c)) : DatW w S v (some c') := by
  obtain ⟨h1, h2⟩ := H
  have e1 := trimN_congr 4096 h
  have e2 : bcells c (trimN c 4096) = bcells c' (trimN c 4096) := bcells_congr fun i hi => h i (by have := trimN_le c 4096; omega)
  exact ⟨by rw [← e1, ← e2]; exact h1, hb⟩
theorem posAt_congr {w : World} {S : Nat → Prop} {v : Value} {num : Int} {ls : List Lt} {c c' : By} (h : ∀ i, i < 4096 → c i = c' i) (hb : ByOk c') (H : PosAt w S v num (ls.map (poOf c))) : PosAt w S v num (ls.map (poOf c')) := by
  obtain ⟨l, h1, h2, h3⟩ := H.ex
  have hl : l.length = ls.length := by have := congrArg List.length h1; simpa using this
  refine ⟨List.zipWith (fun x y => (poOf c' x, y.2)) ls l, ?_, ?_, fun x hx => ?_⟩
  · rw [List.map_zipWith]
    apply List.ext_getElem?
    intro i
    rw [List.getElem?_zipWith, List.getElem?_map]
    by_cases hi : i < ls.length
    · rw [List.getElem?_eq_getElem hi, List.getElem?_eq_getElem (by omega : i < l.length)]
      rfl
    · rw [List.getElem?_eq_none (by omega)]
      rfl
  · have e : posC num (List.zipWith (fun x y => (poOf c' x, y.2)) ls l) = posC num l := by
      clear h2 h3 hl H
      unfold posC
      induction l generalizing ls with
      | nil => cases ls with
        | nil => rfl
        | cons x ls => simp at h1
      | cons y l ih => cases ls with
        | nil => simp at h1
        | cons x ls =>
          rw [List.map_cons, List.map_cons, List.cons.injEq] at h1
          rw [List.zipWith_cons_cons, List.flatMap_cons, List.flatMap_cons, ih h1.2]
          congr 1
          unfold poC
          rw [h1.1]
          rfl
    rw [e, List.length_zipWith, hl, Nat.min_self, ← hl]
    exact h2
  · obtain ⟨i, hi, rfl⟩ := List.getElem_of_mem hx
    rw [List.length_zipWith] at hi
    have hi1 : i < ls.length := by omega
    have hi2 : i < l.length := by omega
    rw [List.getElem_zipWith]
    have hd := h3 l[i] (List.getElem_mem hi2)
    have e : l[i].1 = poOf c ls[i] := by
      have := congrArg (fun q : List Po => q[i]?) h1
      simp only [List.getElem?_map, List.getElem?_eq_getElem hi1, List.getElem?_eq_getElem hi2, Option.map_some, Option.some.injEq] at this
      exact this
    rw [e] at hd
    revert hd
    show DatW w S l[i].2 (if ls[i].pg then some c else none) → DatW w S l[i].2 (if ls[i].pg then some c' else none)
    cases ls[i].pg
    · exact id
    · exact fun hd => datW_congr h hb hd
/-- A node's home and space, as its pages' states and bytes. -/
structure NdV (w : World) (F : Nat → Prop) (hb spb me n : Nat) (S : Nat → PgS) (C : Nat → By) : Prop where
  ex : ∃ (SH : Nat → Prop) (L : Pl) (s : Spc) (ps : List (Int × Nat × PgS)), L.pb = spb ∧ HmN w SH hb L.pb me n 0 2 ps ∧ SpAt w L s ∧ SV s (fun p => (S p).right) C ∧ (∀ k, SH k → ¬ L.All k) ∧ (∀ k, SH k ∨ L.All k → F k) ∧ (∀ p : Nat, p < 2 → S p = pst ps me n p)
  lt : ∀ k, F k → k < w.heap.size
  by' : ∀ p, ByOk (C p)
theorem NdV.chg {w w' : World} {F S' : Nat → Prop} {hb spb me n : Nat} {S : Nat → PgS} {C : Nat → By} (h : NdV w F hb spb me n S C) (c : Chg S' w w') (hs : ∀ k, F k → ¬ S' k) : NdV w' F hb spb me n S C := by
  obtain ⟨SH, L, s, ps, e, h1, h2, h3, h4, h5, h6⟩ := h.ex
  exact ⟨⟨SH, L, s, ps, e, h1.chg c fun k hk => hs k (h5 k (.inl hk)), h2.chg c fun k hk => hs k (h5 k (.inr hk)), h3, h4, h5, h6⟩, fun k hk => Nat.lt_of_lt_of_le (h.lt k hk) c.size, h.by'⟩
theorem NdV.chg0 {w w' : World} {F : Nat → Prop} {hb spb me n : Nat} {S : Nat → PgS} {C : Nat → By} (h : NdV w F hb spb me n S C) (c : Chg NoB w w') : NdV w' F hb spb me n S C := h.chg c fun _ _ => id
end Go.Proofs.YtdjaeoeejcmhdaaGreatDoor
