/- A node's memory: pages of frames by a map; words read and laid. No condition. A node's memory: words loaded and stored, pages. No condition. The word that tells the root of the tables; walks through the tables. No condition. The buffer of entries: pages' numbers, ways that serve. No condition. -/
import Derived.Test.YtdjaeoeejcmhdaaGreatDoorGc
import Derived.Test.YtdjaeoeejcmhdaaGreatDoorGa
import Derived.Deep.WholeRow
import Derived.LaidEqlPtr
import Derived.Test.YtdjaeoeejcmhdaaGreatDoorGe
import Derived.Test.YtdjaeoeejcmhdaaGreatDoorGb
set_option linter.unusedVariables false
set_option linter.unusedSimpArgs false
namespace Go.Proofs.YtdjaeoeejcmhdaaGreatDoor
open Go.RowKit Go.RR
/-- The map of a memory's pages: frames, and their blocks. -/
def pgMap (m : List (Int × Nat)) : List (Int × Value) := m.map fun p => (p.1, .pointer (some ⟨p.2, 0, none⟩))
/-- Pages in blocks of S: each has its block, no two the same one, and what has none is empty. -/
structure PgsAt (w : World) (S : Nat → Prop) (m : List (Int × Nat)) (b : By) : Prop where
  blk : ∀ p ∈ m, S p.2 ∧ 0 ≤ p.1 ∧ Blk w p.2 (bcells (pgF b p.1.toNat) 4096).toArray 197
  inj : ∀ p ∈ m, ∀ q ∈ m, p.2 = q.2 → p.1 = q.1
  key : ∀ p ∈ m, ∀ q ∈ m, p.1 = q.1 → p.2 = q.2
  no : ∀ f : Nat, mlook (pgMap m) f = none → ∀ i, i < 4096 → b (4096 * f + i) = 0
  ok : ByOk b
/-- Memory mb: fr frames, bytes b. -/
def MemAt (w : World) (S : Nat → Prop) (mb : Nat) (b : By) (fr : Nat) : Prop :=
  ∃ (mp : Nat) (m : List (Int × Nat)), S mb ∧ S mp ∧ mp ≠ mb ∧ Blk w mb #[.map (some mp), .int .i64 fr] 157 ∧ MapAt w mp .i64 (pgMap m) ∧ PgsAt w (fun k => S k ∧ k ≠ mb ∧ k ≠ mp) m b
theorem PgsAt.chg {w w' : World} {S S' : Nat → Prop} {m : List (Int × Nat)} {b : By} (h : PgsAt w S m b) (c : Chg S' w w') (hs : ∀ k, S k → ¬ S' k) : PgsAt w' S m b :=
  ⟨fun p hp => by obtain ⟨h1, h2, h3⟩ := h.blk p hp; exact ⟨h1, h2, c.blk h3 (hs _ h1)⟩, h.inj, h.key, h.no, h.ok⟩
theorem PgsAt.mono {w : World} {S S' : Nat → Prop} {m : List (Int × Nat)} {b : By} (h : PgsAt w S m b) (hs : ∀ k, k < w.heap.size → S k → S' k) : PgsAt w S' m b :=
  ⟨fun p hp => by obtain ⟨h1, h2, h3⟩ := h.blk p hp; exact ⟨hs _ h3.lt h1, h2, h3⟩, h.inj, h.key, h.no, h.ok⟩
theorem MemAt.chg {w w' : World} {S S' : Nat → Prop} {mb : Nat} {b : By} {fr : Nat} (h : MemAt w S mb b fr) (c : Chg S' w w') (hs : ∀ k, S k → ¬ S' k) : MemAt w' S mb b fr := by
  obtain ⟨mp, m, h1, h2, h3, h4, h5, h6⟩ := h
  exact ⟨mp, m, h1, h2, h3, c.blk h4 (hs _ h1), h5.chg c (hs _ h2), h6.chg c fun k hk => hs k hk.1⟩
theorem MemAt.chg0 {w w' : World} {S : Nat → Prop} {mb : Nat} {b : By} {fr : Nat} (h : MemAt w S mb b fr) (c : Chg NoB w w') : MemAt w' S mb b fr := h.chg c fun _ _ => id
theorem MemAt.mono {w : World} {S S' : Nat → Prop} {mb : Nat} {b : By} {fr : Nat} (h : MemAt w S mb b fr) (hs : ∀ k, k < w.heap.size → S k → S' k) : MemAt w S' mb b fr := by
  obtain ⟨mp, m, h1, h2, h3, h4, h5, h6⟩ := h
  exact ⟨mp, m, hs _ h4.lt h1, hs _ h5.lt h2, h3, h4, h5, h6.mono fun k hk h => ⟨hs k hk h.1, h.2⟩⟩
theorem pgMap_look {m : List (Int × Nat)} {f : Int} {v : Value} (h : mlook (pgMap m) f = some v) : ∃ g, v = .pointer (some ⟨g, 0, none⟩) ∧ (f, g) ∈ m := by
  unfold mlook pgMap at h
  rw [List.find?_map] at h
  cases hf : m.find? ((fun p : Int × Value => p.1 == f) ∘ fun p : Int × Nat => (p.1, Value.pointer (some ⟨p.2, 0, none⟩))) with
  | none => rw [hf] at h; cases h
  | some p =>
    rw [hf] at h
    have h1 := List.find?_some hf
    simp at h1
    cases h
    exact ⟨p.2, rfl, by rw [← h1]; exact List.mem_of_find?_eq_some hf⟩
theorem look_none {m : List (Int × Nat)} {f : Int} (h : mlook (pgMap m) f = none) : ∀ p ∈ m, p.1 ≠ f := fun p hp e => by
  have : (mlook (pgMap m) f).isSome = true := by
    unfold mlook pgMap
    rw [Option.isSome_map, List.find?_isSome]
    exact ⟨(p.1, .pointer (some ⟨p.2, 0, none⟩)), List.mem_map.2 ⟨p, hp, rfl⟩, by simp [e]⟩
  rw [h] at this
  cases this
theorem pgMap_put (m : List (Int × Nat)) (f : Int) (g : Nat) : mput (pgMap m) f (.pointer (some ⟨g, 0, none⟩)) = pgMap (putI m f g) := by
  induction m with
  | nil => rfl
  | cons p m ih =>
    show (if p.1 = f then _ else _) = pgMap (if p.1 = f then _ else _)
    by_cases h : p.1 = f
    · rw [if_pos h, if_pos h]; rfl
    · rw [if_neg h, if_neg h]
      show _ :: mput (pgMap m) f _ = _
      rw [ih]
      rfl
theorem putI_none {m : List (Int × Nat)} {f : Int} {g : Nat} (h : mlook (pgMap m) f = none) : putI m f g = m ++ [(f, g)] := by
  induction m with
  | nil => rfl
  | cons p m ih =>
    have hne : p.1 ≠ f := fun e => by
      unfold mlook pgMap at h
      simp [e] at h
    show (if p.1 = f then _ else _) = _
    rw [if_neg hne, ih, List.cons_append]
    unfold mlook pgMap at h ⊢
    simpa [hne] using h
theorem zeroPage : Tryz.zeroCells197 = (bcells (fun _ => 0) 4096).toArray := by kernel_rfl
theorem PPinfo : (Tryz.prog.info? 144).map (fun i => (i.zero, i.size, i.bytes)) = some (some (.pointer none), 1, 8) := by kernel_rfl
set_option maxRecDepth 100000 in
theorem frames_any {S : Nat → Prop} {w : World} {mb fr : Nat} {b : By} (h : MemAt w S mb b fr) : Calls Tryz.prog 59 #[.pointer (some ⟨mb, 0, none⟩)] w (RetW (.int .i64 fr) fun w' => w' = w) := by
  obtain ⟨mp, m, h1, h2, h3, h4, h5, h6⟩ := h
  have e1 := h4.cell' (i := 1) (v := .int .i64 fr) rfl
  have hl := h4.lt
  clear h1 h2 h3 h4 h5 h6
  go_enter Tryz.func59, Tryz.ntmps59
  go_wp2_with fail
  go_ret
  exact ⟨rfl, rfl⟩
/-- What a word's place is found to be. -/
def checkF (fr at' : Nat) (size : Int) : Int := if sizeB size = false then 2 else if alignedB at' size = false then 60 else if fr ≤ at' / 4096 then 61 else 0
set_option maxRecDepth 100000 in
theorem check_any {S : Nat → Prop} {w : World} {mb fr : Nat} {b : By} (h : MemAt w S mb b fr) (at' : Nat) (size : Int) (ha : at' < 18446744073709551616) (hf : fr ≤ 1048576) :
    Calls Tryz.prog 61 #[.pointer (some ⟨mb, 0, none⟩), .int .u64 at', .int .i64 size] w (RetW (.int .i64 (checkF fr at' size)) fun w' => w' = w) := by
  obtain ⟨mp, m, h1, h2, h3, h4, h5, h6⟩ := h
  have e1 := h4.cell' (i := 1) (v := .int .i64 fr) rfl
  have hl := h4.lt
  have H0 := Lib.hid (size_any size w)
  have H1 := Lib.hid (aligned_any at' size w ha)
  obtain ⟨b0, hb0⟩ : ∃ x, sizeB size = x := ⟨_, rfl⟩
  obtain ⟨b1, hb1⟩ : ∃ x, alignedB at' size = x := ⟨_, rfl⟩
  obtain ⟨b2, hb2⟩ : ∃ x, decide (fr ≤ at' / 4096) = x := ⟨_, rfl⟩
  have HR : Hid (checkF fr at' size = if b0 = false then 2 else if b1 = false then 60 else if b2 = true then 61 else 0) := Lib.hid (by
    unfold checkF
    rw [hb0, hb1]
    simp only [← hb2, decide_eq_true_eq])
  rw [hb0] at H0
  rw [hb1] at H1
  have c1 : (fr : Int) % 18446744073709551616 = fr := by omega
  have t1 : decide ((fr : Int) ≤ (at' : Int) / 4096) = b2 := by rw [← hb2, Bool.eq_iff_iff, decide_eq_true_iff, decide_eq_true_iff]; omega
  have t2 : decide (fr ≤ at' / 4096) = b2 := hb2
  clear h1 h2 h3 h4 h5 h6 hb0 hb1 hb2
  go_enter Tryz.func61, Tryz.ntmps61
  cases b0
  · go_wp2_with fail
    with_reducible refine H0.out.mono ?_
    rintro e w1 ⟨rfl, hw1⟩
    subst hw1
    go_wp2_with fail
    go_ret
    exact ⟨by rw [HR.out]; rfl, rfl⟩
  · go_wp2_with fail
    with_reducible refine H0.out.mono ?_
    rintro e w1 ⟨rfl, hw1⟩
    subst hw1
    go_wp2_with fail
    with_reducible refine H1.out.mono ?_
    rintro e w2 ⟨rfl, hw2⟩
    subst hw2
    cases b1
    · go_wp2_with fail
      go_ret
      exact ⟨by rw [HR.out]; rfl, rfl⟩
    · cases b2
      all_goals
        go_wp2_with fail
        go_ret
        exact ⟨by rw [HR.out]; rfl, rfl⟩
theorem getW_zero {b : By} : ∀ (n a : Nat), (∀ i, a ≤ i → i < a + n → b i = 0) → getW b a n = 0
  | 0, a, _ => rfl
  | n + 1, a, h => by
    show b a + 256 * getW b (a + 1) n = 0
    rw [h a (Nat.le_refl _) (by omega), getW_zero n (a + 1) fun i h1 h2 => h i (by omega) (by omega)]
theorem align_in {at' s : Nat} (h : alignedB at' s = true) : sizeB s = true ∧ at' % 4096 + s ≤ 4096 ∧ 1 ≤ s ∧ s ≤ 8 := by
  unfold alignedB at h
  rw [Bool.and_eq_true] at h
  obtain ⟨h1, h2⟩ := h
  have h3 := of_decide_eq_true h2
  refine ⟨h1, ?_⟩
  rcases sizeB_of h1 with e | e | e | e
  all_goals
    rw [e] at h3
    simp at h3
    omega
theorem blk_sl4 {w : World} {g : Nat} {h : By} {T : TypeId} (hb : Blk w g (bcells h 4096).toArray T) : Sl w (fun _ => True) 1 (.slice (some ⟨g, 0, none⟩) 4096 4096) 4096 (bcells h 4096) :=
  Sl.of (by rw [bcells_len]) (Nat.le_refl _) trivial hb.lt fun j u hu => hb.cell' (by rw [Nat.zero_add]; simpa using hu)
set_option maxHeartbeats 4000000 in
set_option maxRecDepth 100000 in
theorem load_any {S : Nat → Prop} {w : World} {mb fr : Nat} {b : By} (h : MemAt w S mb b fr) (at' s : Nat) (ha : at' < 18446744073709551616) (hal : alignedB at' s = true) :
    Calls Tryz.prog 106 #[.pointer (some ⟨mb, 0, none⟩), .int .u64 at', .int .i64 s] w (RetW (.int .u64 (getW b at' s)) fun w' => w' = w) := by
  obtain ⟨mp, m, h1, h2, h3, h4, h5, h6⟩ := h
  obtain ⟨hs, hin, hs1, hs8⟩ := align_in hal
  have e0 := h4.cell' (i := 0) (v := .map (some mp)) rfl
  have hl := h4.lt
  obtain ⟨pi, hpi, pz0, pz1, pz2⟩ := info_parts PPinfo
  have hlk := run_look1 (P := Tryz.prog) Tryz.underlying155 Tryz.underlying3 hpi pz0 h5 ((at' / 4096 : Nat) : Int)
  rw [show (((at' / 4096 : Nat) : Int)) = (at' : Int) / 4096 by omega] at hlk
  have k1 : (at' : Int) / 4096 ≤ 9223372036854775807 := by omega
  cases hm : mlook (pgMap m) ((at' : Int) / 4096) with
  | none =>
    have HZ : Hid (getW b at' s = 0) := Lib.hid (getW_zero s at' fun i i1 i2 => by
      have := h6.no (at' / 4096) (by rw [show (((at' / 4096 : Nat) : Int)) = (at' : Int) / 4096 by omega]; exact hm) (i - 4096 * (at' / 4096)) (by omega)
      rwa [show 4096 * (at' / 4096) + (i - 4096 * (at' / 4096)) = i by omega] at this)
    rw [hm, Option.getD_none] at hlk
    clear h1 h2 h3 h4 h5 h6 hm hal hin hs
    go_enter Tryz.func106, Tryz.ntmps106
    go_wp2_with fail
    go_ret
    exact ⟨by rw [HZ.out]; rfl, rfl⟩
  | some v =>
    obtain ⟨g, rfl, hg⟩ := pgMap_look hm
    obtain ⟨g1, g2, g3⟩ := h6.blk _ hg
    have hpg : pgF b ((at' : Int) / 4096).toNat = pgF b (at' / 4096) := by rw [show ((at' : Int) / 4096).toNat = at' / 4096 by omega]
    have HG := Lib.hid (get_any _ (pgF b (at' / 4096)) (fun i => h6.ok _) (.slice (some ⟨g, 0, none⟩) 4096 4096) 4096 (at' % 4096) s w (by rw [← hpg]; exact blk_sl4 g3) (by omega) hs hin)
    have HV : Hid (getW (pgF b (at' / 4096)) (at' % 4096) s = getW b at' s) := Lib.hid (by rw [getW_pg, Nat.div_add_mod])
    rw [HV.out, show ((at' % 4096 : Nat) : Int) = (at' : Int) % 4096 by omega] at HG
    have hgl := g3.lt
    rw [hm, Option.getD_some] at hlk
    clear h1 h2 h3 h4 h5 h6 hm hal hin hs hg g1 g2 g3 hpg
    go_enter Tryz.func106, Tryz.ntmps106
    go_wp2_with fail
    with_reducible refine HG.out.mono ?_
    rintro e w1 ⟨rfl, hw1⟩
    subst hw1
    go_wp2_with fail
    go_ret
    exact ⟨rfl, rfl⟩
set_option maxHeartbeats 4000000 in
set_option maxRecDepth 100000 in
/-- The page of a frame, made if there is none: what is read stays. -/
theorem own_any {S : Nat → Prop} {w : World} {mb fr : Nat} {b : By} (h : MemAt w S mb b fr) (f : Nat) :
    Calls Tryz.prog 63 #[.pointer (some ⟨mb, 0, none⟩), .int .i64 f] w (RetPtr fun g w' => ∃ (mp : Nat) (m : List (Int × Nat)), Grow S w mb ∧ Grow S w mp ∧ mp ≠ mb ∧ Blk w' mb #[.map (some mp), .int .i64 fr] 157 ∧ MapAt w' mp .i64 (pgMap m) ∧
      PgsAt w' (fun k => Grow S w k ∧ k ≠ mb ∧ k ≠ mp) m b ∧ ((f : Int), g) ∈ m ∧ Chg S w w') := by
  obtain ⟨mp, m, h1, h2, h3, h4, h5, h6⟩ := h
  have e0 := h4.cell' (i := 0) (v := .map (some mp)) rfl
  have hl := h4.lt
  obtain ⟨pi, hpi, pz0, pz1, pz2⟩ := info_parts PPinfo
  have hlk := run_look1 (P := Tryz.prog) Tryz.underlying155 Tryz.underlying3 hpi pz0 h5 f
  cases hm : mlook (pgMap m) f with
  | some v =>
    obtain ⟨g, rfl, hg⟩ := pgMap_look hm
    rw [hm, Option.getD_some] at hlk
    have HE : Hid (∃ (mp : Nat) (m : List (Int × Nat)), Grow S w mb ∧ Grow S w mp ∧ mp ≠ mb ∧ Blk w mb #[.map (some mp), .int .i64 fr] 157 ∧ MapAt w mp .i64 (pgMap m) ∧
      PgsAt w (fun k => Grow S w k ∧ k ≠ mb ∧ k ≠ mp) m b ∧ ((f : Int), g) ∈ m ∧ Chg S w w) := Lib.hid ⟨mp, m, .inl h1, .inl h2, h3, h4, h5, h6.mono fun k hk h => ⟨.inl h.1, h.2⟩, hg, Chg.refl _ _⟩
    clear h1 h2 h3 h4 h5 h6 hm hg
    go_enter Tryz.func63, Tryz.ntmps63
    go_wp2_with fail
    go_ret
    exact ⟨_, rfl, HE.out⟩
  | none =>
    rw [hm, Option.getD_none] at hlk
    have HM := Lib.hid hm
    have H1 := Lib.hid h1
    have H2 := Lib.hid h2
    have H3 := Lib.hid h3
    have H4 := Lib.hid h4
    have H5 := Lib.hid h5
    have H6 := Lib.hid h6
    have A1 := (Chg.refl NoB w).alloc (.cells Tryz.zeroCells197 197)
    have e1 := A1.cell e0 id
    have hM1 := h5.chg A1 id
    clear h1 h2 h3 h4 h5 h6 hm
    go_enter Tryz.func63, Tryz.ntmps63
    go_wp2_with (refine wpList_mapput rfl _ _ _ 155 3 144 rfl Tryz.underlying155 Tryz.underlying3 rfl hM1 f rfl (.pointer (some ⟨w.heap.size, 0, none⟩)) rfl ?_)
    intro w2 hM2 C2
    go_wp2_with fail
    go_ret
    have hB := HM.out
    have G6 := H6.out
    refine ⟨w.heap.size, rfl, mp, m ++ [((f : Int), w.heap.size)], .inl H1.out, .inl H2.out, H3.out, ?_, ?_, ⟨?_, ?_, ?_, ?_, G6.ok⟩, by simp, ?_⟩
    · exact C2.blk (A1.blk0 H4.out) (fun e => H3.out e.symm)
    · rw [pgMap_put, putI_none hB] at hM2
      exact hM2
    · intro p hp
      rcases List.mem_append.1 hp with hp | hp
      · obtain ⟨g1, g2, g3⟩ := G6.blk p hp
        exact ⟨⟨.inl g1.1, g1.2⟩, g2, C2.blk (A1.blk0 g3) g1.2.2⟩
      · rw [List.mem_singleton] at hp
        subst hp
        have hlt := H4.out.lt
        have hlt2 := H5.out.lt
        refine ⟨⟨.inr (Nat.le_refl _), by show w.heap.size ≠ mb; omega, by show w.heap.size ≠ mp; omega⟩, by show (0 : Int) ≤ f; omega, ?_⟩
        have h0 : bcells (pgF b (f : Int).toNat) 4096 = bcells (fun _ => 0) 4096 := bcells_congr fun i hi => G6.no f hB i hi
        show Blk w2 w.heap.size (bcells (pgF b (f : Int).toNat) 4096).toArray 197
        rw [h0, ← zeroPage]
        exact C2.blk (Blk.new w _ _) (fun e => by omega)
    · intro p hp q hq e
      rcases List.mem_append.1 hp with hp | hp
      · rcases List.mem_append.1 hq with hq | hq
        · exact G6.inj p hp q hq e
        · rw [List.mem_singleton] at hq
          subst hq
          have := (G6.blk p hp).2.2.lt
          omega
      · rw [List.mem_singleton] at hp
        subst hp
        rcases List.mem_append.1 hq with hq | hq
        · have := (G6.blk q hq).2.2.lt
          omega
        · rw [List.mem_singleton] at hq
          subst hq
          rfl
    · intro p hp q hq e
      have hno := look_none hB
      rcases List.mem_append.1 hp with hp | hp
      · rcases List.mem_append.1 hq with hq | hq
        · exact G6.key p hp q hq e
        · rw [List.mem_singleton] at hq
          subst hq
          exact absurd e (hno p hp)
      · rw [List.mem_singleton] at hp
        subst hp
        rcases List.mem_append.1 hq with hq | hq
        · exact absurd e.symm (hno q hq)
        · rw [List.mem_singleton] at hq
          subst hq
          rfl
    · intro k hk
      apply G6.no k
      cases hmk : mlook (pgMap m) k with
      | none => rfl
      | some v =>
        obtain ⟨g, -, hg⟩ := pgMap_look hmk
        have : (mlook (pgMap (m ++ [((f : Int), w.heap.size)])) k).isSome = true := by
          unfold mlook pgMap
          rw [Option.isSome_map, List.find?_isSome]
          exact ⟨(k, .pointer (some ⟨g, 0, none⟩)), List.mem_map.2 ⟨(k, g), List.mem_append_left _ hg, rfl⟩, by simp⟩
        rw [hk] at this
        cases this
    · exact (A1.mono (S' := S) fun _ _ h => h.elim).trans C2 fun k _ e => by rw [e]; exact H2.out
end Go.Proofs.YtdjaeoeejcmhdaaGreatDoor
set_option linter.unusedVariables false
set_option linter.unusedSimpArgs false
namespace Go.Proofs.YtdjaeoeejcmhdaaGreatDoor
open Go.RowKit Go.RR
theorem check_zero {fr at' : Nat} {s : Int} (h : checkF fr at' s = 0) : alignedB at' s = true ∧ at' / 4096 < fr := by
  unfold checkF at h
  split at h
  · cases h
  · split at h
    · cases h
    · split at h
      · cases h
      · rename_i h2 h3
        exact ⟨by simpa using h2, by omega⟩
theorem check_ok {fr at' s : Nat} (h : alignedB at' s = true) (hf : at' / 4096 < fr) : checkF fr at' s = 0 := by
  have hs := (align_in h).1
  unfold checkF
  rw [if_neg (by rw [hs]; simp), if_neg (by rw [h]; simp), if_neg (by omega)]
set_option maxRecDepth 100000 in
theorem Load_any {S : Nat → Prop} {w : World} {mb fr : Nat} {b : By} (h : MemAt w S mb b fr) (at' s : Nat) (ha : at' < 18446744073709551616) (hf : fr ≤ 1048576) :
    Calls Tryz.prog 64 #[.pointer (some ⟨mb, 0, none⟩), .int .u64 at', .int .i64 s] w (RetW (.tuple #[.int .u64 ((if checkF fr at' s = 0 then getW b at' s else 0 : Nat) : Int), .int .i64 (checkF fr at' s)]) fun w' => w' = w) := by
  have H0 := Lib.hid (check_any h at' s ha hf)
  by_cases hc : checkF fr at' s = 0
  · have H1 := Lib.hid (load_any h at' s ha (check_zero hc).1)
    rw [if_pos hc, hc]
    rw [hc] at H0
    clear h hc
    go_enter Tryz.func64, Tryz.ntmps64
    go_wp2_with fail
    with_reducible refine H0.out.mono ?_
    rintro e w1 ⟨rfl, hw1⟩
    subst hw1
    go_wp2_with fail
    with_reducible refine H1.out.mono ?_
    rintro e w2 ⟨rfl, hw2⟩
    subst hw2
    go_wp2_with fail
    go_ret2
    exact ⟨rfl, rfl⟩
  · rw [if_neg hc]
    have t1 : (checkF fr at' s == 0) = false := beq_eq_false_iff_ne.2 hc
    have t2 : (checkF fr at' s != 0) = true := by rw [bne, t1]; rfl
    generalize checkF fr at' s = c at *
    clear h hc
    go_enter Tryz.func64, Tryz.ntmps64
    go_wp2_with fail
    with_reducible refine H0.out.mono ?_
    rintro e w1 ⟨rfl, hw1⟩
    subst hw1
    go_wp2_with fail
    go_ret2
    exact ⟨rfl, rfl⟩
theorem PgsAt.put {w w' : World} {S : Nat → Prop} {m : List (Int × Nat)} {b : By} (h : PgsAt w S m b) {f g a s v : Nat} (hg : ((f : Int), g) ∈ m) (c : Chg (· = g) w w') (hb : Blk w' g (bcells (putW (pgF b f) a s v) 4096).toArray 197) (ha : a + s ≤ 4096) :
    PgsAt w' S m (putW b (4096 * f + a) s v) := by
  refine ⟨fun p hp => ?_, h.inj, h.key, fun k hk i hi => ?_, putW_ok h.ok _ _ _⟩
  · obtain ⟨h1, h2, h3⟩ := h.blk p hp
    refine ⟨h1, h2, ?_⟩
    by_cases e : p.2 = g
    · have e1 : p.1 = (f : Int) := h.inj p hp _ hg e
      rw [e, e1, show ((f : Int)).toNat = f by omega, ← putW_pg]
      exact hb
    · have hne : p.1.toNat ≠ f := fun e2 => e (h.key p hp _ hg (by show p.1 = (f : Int); omega))
      rw [bcells_congr (putW_pg_ne b hne ha)]
      exact c.blk h3 e
  · have hne : k ≠ f := fun e => look_none hk _ hg (by rw [e])
    have := putW_pg_ne b (n := s) (v := v) hne ha i hi
    have h0 := h.no k hk i hi
    unfold pgF at this
    rw [this, h0]
set_option maxHeartbeats 4000000 in
set_option maxRecDepth 100000 in
theorem Store_any {S : Nat → Prop} {w : World} {mb fr : Nat} {b : By} (h : MemAt w S mb b fr) (at' s v : Nat) (ha : at' < 18446744073709551616) (hf : fr ≤ 1048576) (hv : v < 18446744073709551616) (hal : alignedB at' s = true) (hlt : at' / 4096 < fr) :
    Calls Tryz.prog 23 #[.pointer (some ⟨mb, 0, none⟩), .int .u64 at', .int .i64 s, .int .u64 v] w (RetW (.int .i64 0) fun w' => MemAt w' (Grow S w) mb (putW b at' s v) fr ∧ Chg S w w') := by
  have H0 := Lib.hid (check_any h at' s ha hf)
  rw [check_ok hal hlt] at H0
  obtain ⟨hs, hin, hs1, hs8⟩ := align_in hal
  have HO := Lib.hid (own_any h (at' / 4096))
  rw [show ((at' / 4096 : Nat) : Int) = (at' : Int) / 4096 by omega] at HO
  have k1 : (at' : Int) / 4096 ≤ 9223372036854775807 := by omega
  have HS := Lib.hid hs
  clear h hal hs
  go_enter Tryz.func23, Tryz.ntmps23
  go_wp2_with fail
  with_reducible refine H0.out.mono ?_
  rintro e w1 ⟨rfl, hw1⟩
  subst hw1
  go_wp2_with fail
  with_reducible refine HO.out.mono ?_
  rintro e w2 ⟨g, rfl, mp, m, h1, h2, h3, h4, h5, h6, hg, C2⟩
  rw [show (at' : Int) / 4096 = ((at' / 4096 : Nat) : Int) by omega] at hg
  obtain ⟨g1, g2, g3⟩ := h6.blk _ hg
  have g3 : Blk w2 g (bcells (pgF b (at' / 4096)) 4096).toArray 197 := by
    have : (((at' / 4096 : Nat) : Int)).toNat = at' / 4096 := by omega
    rw [← this]
    exact g3
  have HP := Lib.hid (put_any (pgF b (at' / 4096)) g 4096 (at' % 4096) s v 4096 197 w2 g3 (by omega) (by omega) HS.out hin hv)
  rw [show ((at' % 4096 : Nat) : Int) = (at' : Int) % 4096 by omega] at HP
  have hgl := g3.lt
  have HE := Lib.hid (And.intro h1 (And.intro h2 (And.intro h3 (And.intro h4 (And.intro h5 (And.intro h6 (And.intro hg (And.intro g1 C2))))))))
  clear h1 h2 h3 h4 h5 h6 hg g1 g2 g3 C2
  go_wp2_with fail
  with_reducible refine HP.out.mono ?_
  rintro e w3 ⟨rfl, hb3, C3⟩
  have HB3 := Lib.hid hb3
  have HC3 := Lib.hid C3
  clear hb3 C3
  go_wp2_with fail
  go_ret
  obtain ⟨h1, h2, h3, h4, h5, h6, hg, g1, C2⟩ := HE.out
  have hP := h6.put hg HC3.out HB3.out hin
  rw [show 4096 * (at' / 4096) + at' % 4096 = at' by omega] at hP
  exact ⟨rfl, ⟨mp, m, h1, h2, h3, HC3.out.blk h4 (fun e => g1.2.1 e.symm), h5.chg HC3.out (fun e => g1.2.2 e.symm), hP⟩, C2.trans HC3.out fun k hk e => by
    rw [e]
    rcases g1.1 with h | h
    · exact h
    · have : k = g := e
      omega⟩
end Go.Proofs.YtdjaeoeejcmhdaaGreatDoor
set_option linter.unusedVariables false
set_option linter.unusedSimpArgs false
namespace Go.Proofs.YtdjaeoeejcmhdaaGreatDoor
open Go.RowKit Go.RR
def satpW (s : Satp) : Nat := s.ppn + s.asid.toNat * 17592186044416 + (if s.on then 9223372036854775808 else 0)
structure Satp.Ok (s : Satp) : Prop where
  a0 : 0 ≤ s.asid
  a1 : s.asid < 65536
  p : s.ppn < 17592186044416
set_option maxRecDepth 100000 in
theorem putSatp_any (s : Satp) (hs : s.Ok) (w : World) : Calls Tryz.prog 39 #[.agg #[.bool s.on, .int .i64 s.asid, .int .u64 s.ppn]] w (RetW (.int .u64 (satpW s)) fun w' => Chg NoB w w') := by
  obtain ⟨on, asid, ppn⟩ := s
  obtain ⟨h1, h2, h3⟩ := hs
  dsimp only at h1 h2 h3 ⊢
  have m1 : bits .and .u64 (ppn : Int) 17592186044415 = (ppn : Int) := by
    have := and_lo 44 (by omega) (ppn : Int) (by omega) (by omega)
    rw [show (ppn : Int) % 2 ^ 44 = ppn by simp only [Int.reducePow]; omega] at this
    simpa using this
  have m2 : bits .and .i64 asid 65535 = asid := by
    have := bits_mask .i64 63 (by decide) (fun m h0 h1 => by rw [IntKind.wrap_i64]; omega) 16 (by omega) asid h1 (by simp only [Int.reducePow]; omega)
    rw [show asid % 2 ^ 16 = asid by simp only [Int.reducePow]; omega] at this
    simpa using this
  obtain ⟨B, hB⟩ : ∃ B, ppn + asid.toNat * 17592186044416 = B := ⟨_, rfl⟩
  have hB64 : B < 9223372036854775808 := by omega
  have m3 : bits .or .u64 (ppn : Int) (asid * 17592186044416) = (B : Int) := by
    have := u64_or_nat ppn (asid.toNat * 17592186044416) (by omega) (by omega)
    rw [Nat.or_comm, nat_join 44 (asid.toNat * 17592186044416) ppn (by simp) (by simp only [Nat.reducePow]; omega), Nat.add_comm, hB] at this
    rw [← this]
    congr 1
    omega
  have m4 : bits .or .u64 (B : Int) 9223372036854775808 = ((B + 9223372036854775808 : Nat) : Int) := by
    have := u64_or_nat B 9223372036854775808 (by omega) (by omega)
    rw [Nat.or_comm, nat_join 63 9223372036854775808 B (by simp) (by simp only [Nat.reducePow]; omega), Nat.add_comm] at this
    rw [← this]
    congr 1
  have HW : Hid (satpW ⟨on, asid, ppn⟩ = B + (if on then 9223372036854775808 else 0)) := Lib.hid (by unfold satpW; rw [hB])
  clear hB
  cases on
  · go_enter Tryz.func39, Tryz.ntmps39
    go_wp2_with fail
    go_ret
    exact ⟨by rw [HW.out]; rfl, (Chg.refl NoB w).alloc _⟩
  · go_enter Tryz.func39, Tryz.ntmps39
    go_wp2_with fail
    go_ret
    exact ⟨by rw [HW.out]; rfl, (Chg.refl NoB w).alloc _⟩
set_option maxRecDepth 100000 in
theorem getSatp_any (s : Satp) (hs : s.Ok) (hon : s.on = true) (w : World) : Calls Tryz.prog 83 #[.int .u64 (satpW s)] w (RetW (.tuple #[.agg #[.bool true, .int .i64 s.asid, .int .u64 s.ppn], .bool true]) fun w' => Chg NoB w w') := by
  obtain ⟨on, asid, ppn⟩ := s
  obtain ⟨h1, h2, h3⟩ := hs
  dsimp only at h1 h2 h3 hon ⊢
  subst hon
  obtain ⟨V, hV⟩ : ∃ V, satpW ⟨true, asid, ppn⟩ = V := ⟨_, rfl⟩
  rw [hV]
  have hv : V = ppn + asid.toNat * 17592186044416 + 9223372036854775808 := by rw [← hV]; rfl
  have e1 : (V : Int) / 1152921504606846976 = 8 := by omega
  have m1 : bits .and .u64 ((V : Int) / 17592186044416) 65535 = asid := by
    have := and_lo 16 (by omega) ((V : Int) / 17592186044416) (by omega) (by omega)
    rw [show (V : Int) / 17592186044416 % 2 ^ 16 = asid by simp only [Int.reducePow]; omega] at this
    simpa using this
  have m2 : bits .and .u64 (V : Int) 17592186044415 = (ppn : Int) := by
    have := and_lo 44 (by omega) (V : Int) (by omega) (by omega)
    rw [show (V : Int) % 2 ^ 44 = ppn by simp only [Int.reducePow]; omega] at this
    simpa using this
  clear hv hV
  go_enter Tryz.func83, Tryz.ntmps83
  go_wp2_with fail
  exact bodyPost_ret (v := .tuple #[.agg #[.bool true, .int .i64 asid, .int .u64 ppn], .bool true]) (by simp [results, Tryz.results83, go_sem]) rfl ⟨rfl, (Chg.refl _ _).alloc _⟩
end Go.Proofs.YtdjaeoeejcmhdaaGreatDoor
set_option linter.unusedVariables false
set_option linter.unusedSimpArgs false
namespace Go.RR
theorem Blk.ever {w : World} {b : Nat} {cs : Array Value} {T : TypeId} (h : Blk w b cs T) : ∀ w', Chg NoB w w' → ∀ i, w'.cell? ⟨b, i, none⟩ = cs[i]? := fun w' c i => (c.blk0 h).cell i
theorem Blk.everF {w : World} {b : Nat} {cs : Array Value} {T : TypeId} (h : Blk w b cs T) : ∀ w', Chg NoB w w' → ∀ i, w'.frozen? ⟨b, i, none⟩ = false := fun w' c i => (c.blk0 h).frozen i
theorem Blk.everL {w : World} {b : Nat} {cs : Array Value} {T : TypeId} (h : Blk w b cs T) : ∀ w', Chg NoB w w' → b < w'.heap.size := fun w' c => (c.blk0 h).lt
theorem Chg.reads {w w' : World} (c : Chg NoB w w') : ∀ b i, b < w.heap.size → w'.cell? ⟨b, i, none⟩ = w.cell? ⟨b, i, none⟩ := fun b i h => World.cell?_of_block (c.block b h id)
theorem nat_beq (a b : Nat) : ((a : Int) == (b : Int)) = decide (a = b) := by rw [Bool.eq_iff_iff, beq_iff_eq, decide_eq_true_iff]; omega
end Go.RR
namespace Go.Proofs.YtdjaeoeejcmhdaaGreatDoor
open Go.RowKit Go.RR
def Way.cs (w : Way) : List Value := [.bool w.full, .int .i64 w.asid, .int .u64 w.page, .bool w.leaf.p.v, .bool w.leaf.p.r, .bool w.leaf.p.w, .bool w.leaf.p.x, .bool w.leaf.p.u, .bool w.leaf.p.g, .bool w.leaf.p.a, .bool w.leaf.p.d, .int .i64 w.leaf.p.rsw, .int .u64 w.leaf.p.ppn, .int .i64 w.leaf.level, .int .u64 w.leaf.pos]
set_option maxRecDepth 100000 in
theorem tlbPage_any (va : Nat) (l : Int) (w : World) (hv : va < 18446744073709551616) (hl : levelB l = true) : Calls Tryz.prog 136 #[.int .u64 va, .int .i64 l] w (RetW (.int .u64 (pageOf va l)) fun w' => w' = w) := by
  have HV := Lib.hid fun w' => vpn_any va w' hv
  have hp : Hid (∀ k : Nat, ((vpn va / 2 ^ k : Nat) : Int) = (vpn va : Int) / 2 ^ k) := Lib.hid fun k => by rw [Int.natCast_ediv]; simp
  have hu : Hid (pageOf va l = vpn va / 2 ^ (9 * l.toNat)) := Lib.hid rfl
  rw [hu.out]
  obtain ⟨v, hvv⟩ : ∃ v, vpn va = v := ⟨_, rfl⟩
  rw [hvv] at HV hp ⊢
  clear hvv hu
  rcases level_cases l with rfl | rfl | rfl | h
  · go_enter Tryz.func136, Tryz.ntmps136
    go_wp2_with fail
    with_reducible refine (HV.out _).mono ?_
    rintro e w1 ⟨rfl, hw1⟩
    subst hw1
    go_wp2_with fail
    go_ret
    exact ⟨by simp, rfl⟩
  · go_enter Tryz.func136, Tryz.ntmps136
    go_wp2_with fail
    with_reducible refine (HV.out _).mono ?_
    rintro e w1 ⟨rfl, hw1⟩
    subst hw1
    go_wp2_with fail
    go_ret
    exact ⟨congrArg (fun z : Int => Ending.returned (Value.int .u64 z)) (hp.out 9).symm, rfl⟩
  · go_enter Tryz.func136, Tryz.ntmps136
    go_wp2_with fail
    with_reducible refine (HV.out _).mono ?_
    rintro e w1 ⟨rfl, hw1⟩
    subst hw1
    go_wp2_with fail
    go_ret
    exact ⟨congrArg (fun z : Int => Ending.returned (Value.int .u64 z)) (hp.out 18).symm, rfl⟩
  · rw [hl] at h; cases h
set_option maxRecDepth 100000 in
theorem wayHas_any (e : Way) (va : Nat) (w : World) (hv : va < 18446744073709551616) (hl : levelB e.leaf.level = true) : Calls Tryz.prog 169 #[.agg #[.bool e.full, .int .i64 e.asid, .int .u64 e.page, .bool e.leaf.p.v, .bool e.leaf.p.r, .bool e.leaf.p.w, .bool e.leaf.p.x, .bool e.leaf.p.u, .bool e.leaf.p.g, .bool e.leaf.p.a, .bool e.leaf.p.d, .int .i64 e.leaf.p.rsw, .int .u64 e.leaf.p.ppn, .int .i64 e.leaf.level, .int .u64 e.leaf.pos], .int .u64 va] w (RetW (.bool (e.has va)) fun w' => Chg NoB w w') := by
  have HP := Lib.hid fun w' => tlbPage_any va e.leaf.level w' hv hl
  obtain ⟨full, asid, pg, ⟨v, r, pw, x, u, g, a, d, rsw, ppn⟩, level, pos⟩ := e
  obtain ⟨P, hP⟩ : ∃ P, pageOf va level = P := ⟨_, rfl⟩
  rw [show (Way.mk full asid pg ⟨⟨v, r, pw, x, u, g, a, d, rsw, ppn⟩, level, pos⟩).has va = (full && decide (pg = P)) from by rw [← hP]; rfl]
  dsimp only at HP hl
  rw [hP] at HP
  have HC := Lib.hid (Chg.refl NoB w)
  clear hP hl
  cases full
  all_goals
    go_enter Tryz.func169, Tryz.ntmps169
    go_upto_region 1 with fail
    go_quiet ((go_at_call 136; exact Calls.quiet_of_same (HP.out _)))
    go_wp2_with fail
    go_ret
    first
      | exact ⟨rfl, (HC.out.alloc _).drewN _⟩
      | exact ⟨ret_bool (by simp [nat_beq]), (HC.out.alloc _).drewN _⟩
end Go.Proofs.YtdjaeoeejcmhdaaGreatDoor
