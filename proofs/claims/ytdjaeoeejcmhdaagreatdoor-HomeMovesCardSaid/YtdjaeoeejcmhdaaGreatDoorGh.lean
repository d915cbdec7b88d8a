/- A node's memory: new, pages read and laid. No condition. Frames of a memory: which ones are taken. No condition. -/
import Derived.Test.YtdjaeoeejcmhdaaGreatDoorGf
import Derived.Test.YtdjaeoeejcmhdaaGreatDoorGg
import Derived.Test.YtdjaeoeejcmhdaaGreatDoorGd
import Derived.Laws.CopyOwn
import Derived.Laws.CopyRow
import Derived.MakeChecks
set_option linter.unusedVariables false
set_option linter.unusedSimpArgs false
namespace Go.Proofs.YtdjaeoeejcmhdaaGreatDoor
open Go.RowKit Go.RR
theorem made0 (n : Nat) : madeCells #[.int .u8 0] n = (bcells (fun _ => 0) n).toArray := by
  apply Array.ext_getElem?
  intro k
  unfold madeCells bcells
  by_cases hk : k < n
  · simp [hk, Nat.mod_one]
  · simp [hk]
theorem mk4096 (W : World) : (Instr.makeSlice 50 (.int .i64 4096) (.int .i64 4096)).run Tryz.prog W = .ok (.slice (some ⟨W.heap.size, 0, none⟩) 4096 4096) (W.alloc (.cells (bcells (fun _ => 0) 4096).toArray 5)) := by
  obtain ⟨i0, hi0, hz0, hz1, hz2⟩ := info_parts b_elem
  have h := run_make (P := Tryz.prog) W 50 5 i0 _ Tryz.underlying50 hi0 hz0 .i64 .i64 4096 4096 (by omega) (by omega) (by rw [hz2]; omega) (by omega)
  rw [hz1] at h
  rw [← made0 4096]
  exact h
set_option maxRecDepth 100000 in
theorem memNew_any (n : Int) (w : World) (h1 : 1 ≤ n) (h2 : n ≤ 1048576) : Calls Tryz.prog 32 #[.int .i64 n] w (RetW (.tuple #[.pointer (some ⟨w.heap.size + 1, 0, none⟩), .int .i64 0]) fun w' => MemAt w' (fun k => w.heap.size ≤ k) (w.heap.size + 1) (fun _ => 0) n.toNat ∧ Chg NoB w w') := by
  have hmk : ∀ w, (Instr.makeMap 155 none).run Tryz.prog w = .ok (.map (some w.heap.size)) (w.alloc (.map #[] 0)) := fun _ => rfl
  have t1 : decide (n < 1) = false := decide_eq_false (by omega)
  have t2 : decide (1048576 < n) = false := decide_eq_false (by omega)
  have HN : Hid (((n.toNat : Nat) : Int) = n) := Lib.hid (by omega)
  have hz : (w.alloc (.map #[] 0)).heap.size = w.heap.size + 1 := by simp
  go_enter Tryz.func32, Tryz.ntmps32
  go_wp2_with fail
  go_ret2
  refine ⟨rfl, ⟨w.heap.size, [], by show w.heap.size ≤ w.heap.size + 1; omega, Nat.le_refl _, by omega, ?_, ?_, ⟨fun p h => (by cases h), fun p h => (by cases h), fun p h => (by cases h), fun _ _ _ _ => rfl, fun _ => by show 0 < 256; omega⟩⟩, ((Chg.refl NoB w).alloc _).alloc _⟩
  · have := Blk.new (w.alloc (.map #[] 0)) #[.map (some w.heap.size), .int .i64 n] 157
    rw [hz] at this
    rw [HN.out]
    exact this
  · exact (MapAt.new w .i64).chg ((Chg.refl NoB _).alloc _) id
set_option maxRecDepth 100000 in
theorem frame_any {S : Nat → Prop} {w : World} {mb fr : Nat} {b : By} (h : MemAt w S mb b fr) (f : Nat) (hf : f < fr) : Calls Tryz.prog 124 #[.pointer (some ⟨mb, 0, none⟩), .int .i64 f] w (RetW (.int .i64 0) fun w' => w' = w) := by
  obtain ⟨mp, m, h1, h2, h3, h4, h5, h6⟩ := h
  have e1 := h4.cell' (i := 1) (v := .int .i64 fr) rfl
  have hl := h4.lt
  have t1 : decide ((f : Int) < 0) = false := decide_eq_false (by omega)
  have t2 : decide ((fr : Int) ≤ f) = false := decide_eq_false (by omega)
  have t3 : decide (fr ≤ f) = false := decide_eq_false (by omega)
  clear h1 h2 h3 h4 h5 h6
  go_enter Tryz.func124, Tryz.ntmps124
  go_wp2_with fail
  go_ret
  exact ⟨rfl, rfl⟩
set_option maxHeartbeats 4000000 in
set_option maxRecDepth 100000 in
theorem page_any {S : Nat → Prop} {w : World} {mb fr : Nat} {b : By} (h : MemAt w S mb b fr) (f : Nat) (hf : f < fr) :
    Calls Tryz.prog 89 #[.pointer (some ⟨mb, 0, none⟩), .int .i64 f] w (RetV fun r w' => ∃ v, r = .tuple #[v, .int .i64 0] ∧ Own w' (fun k => w.heap.size ≤ k) 5 1 v 4096 (bcells (pgF b f) 4096) ∧ Chg NoB w w') := by
  have H0 := Lib.hid (frame_any h f hf)
  obtain ⟨mp, m, h1, h2, h3, h4, h5, h6⟩ := h
  have e0 := h4.cell' (i := 0) (v := .map (some mp)) rfl
  have hl := h4.lt
  obtain ⟨pi, hpi, pz0, pz1, pz2⟩ := info_parts PPinfo
  have hlk := run_look1 (P := Tryz.prog) Tryz.underlying155 Tryz.underlying3 hpi pz0 h5 f
  cases hm : mlook (pgMap m) f with
  | some v =>
    obtain ⟨g, rfl, hg⟩ := pgMap_look hm
    obtain ⟨g1, g2, g3⟩ := h6.blk _ hg
    have g3 : Blk w g (bcells (pgF b f) 4096).toArray 197 := by
      have : ((f : Nat) : Int).toNat = f := by omega
      rw [← this]
      exact g3
    rw [hm, Option.getD_some] at hlk
    have HC := Lib.hid (b_clone _ (.slice (some ⟨g, 0, none⟩) 4096 4096) 4096 _ w (blk_sl4 g3) (by unfold bcells; simp [Value.oneCell']) (by omega) (by unfold maxLen; omega))
    have hgl := g3.lt
    clear h1 h2 h3 h4 h5 h6 hm hg g1 g2 g3
    go_enter Tryz.func89, Tryz.ntmps89
    go_wp2_with fail
    with_reducible refine H0.out.mono ?_
    rintro e w1 ⟨rfl, hw1⟩
    subst hw1
    go_wp2_with fail
    with_reducible refine HC.out.mono ?_
    rintro e w2 ⟨v2, rfl, O2, C2⟩
    have HO2 := Lib.hid O2
    have HC2 := Lib.hid C2
    obtain ⟨p2, c2, rfl⟩ := O2.form
    clear O2 C2
    go_wp2_with fail
    go_ret2
    exact ⟨_, rfl, _, rfl, HO2.out, HC2.out⟩
  | none =>
    rw [hm, Option.getD_none] at hlk
    have HZ : Hid (bcells (pgF b f) 4096 = bcells (fun _ => 0) 4096) := Lib.hid (bcells_congr fun i hi => h6.no f hm i hi)
    have hmk := mk4096
    clear h1 h2 h3 h4 h5 h6 hm
    obtain ⟨Z, hZ⟩ : ∃ Z, (bcells (fun _ => 0) 4096) = Z := ⟨_, rfl⟩
    rw [hZ] at HZ hmk
    have hZl : Z.length = 4096 := by rw [← hZ, bcells_len]
    have HZL := Lib.hid hZl
    clear hZ hZl
    go_enter Tryz.func89, Tryz.ntmps89
    go_wp2_with fail
    with_reducible refine H0.out.mono ?_
    rintro e w1 ⟨rfl, hw1⟩
    subst hw1
    go_wp2_with fail
    go_ret2
    refine ⟨_, rfl, _, rfl, ?_, ?_⟩
    · rw [HZ.out]
      exact (Own.fresh w1 Z 5 4096 HZL.out (by unfold maxLen; omega)).mono fun k hk => by rw [hk]; exact Nat.le_refl _
    · exact (Chg.refl NoB w1).alloc _
/-- Bytes, then zeros. -/
def padF (d : By) (n : Nat) : By := fun i => if i < n then d i else 0
theorem padF_ok {d : By} (h : ByOk d) {n : Nat} : ByOk (padF d n) := fun i => by
  unfold padF
  split
  · exact h i
  · omega
theorem lay_pg (b : By) (f : Nat) (d : By) : ∀ i, i < 4096 → pgF (layPg b f d) f i = d i := fun i hi => by
  unfold pgF layPg
  rw [if_pos (by omega), show (4096 * f + i) % 4096 = i by omega]
theorem lay_pg_ne (b : By) (d : By) {f k : Nat} (h : k ≠ f) : ∀ i, i < 4096 → pgF (layPg b f d) k i = pgF b k i := fun i hi => by
  unfold pgF layPg
  rw [if_neg (by omega)]
theorem PgsAt.lay {w w' : World} {S : Nat → Prop} {m : List (Int × Nat)} {b : By} (h : PgsAt w S m b) {f g : Nat} {d : By} (hg : ((f : Int), g) ∈ m) (c : Chg (· = g) w w') (hb : Blk w' g (bcells d 4096).toArray 197) (hd : ByOk d) :
    PgsAt w' S m (layPg b f d) := by
  refine ⟨fun p hp => ?_, h.inj, h.key, fun k hk i hi => ?_, fun a => ?_⟩
  · obtain ⟨h1, h2, h3⟩ := h.blk p hp
    refine ⟨h1, h2, ?_⟩
    by_cases e : p.2 = g
    · have e1 : p.1 = (f : Int) := h.inj p hp _ hg e
      rw [e, e1, show ((f : Int)).toNat = f by omega, bcells_congr (lay_pg b f d)]
      exact hb
    · have hne : p.1.toNat ≠ f := fun e2 => e (h.key p hp _ hg (by show p.1 = (f : Int); omega))
      rw [bcells_congr (lay_pg_ne b d hne)]
      exact c.blk h3 e
  · have hne : k ≠ f := fun e => look_none hk _ hg (by rw [e])
    have := lay_pg_ne b d hne i hi
    have h0 := h.no k hk i hi
    unfold pgF at this
    rw [this, h0]
  · unfold layPg
    split
    · exact hd _
    · exact h.ok _
theorem setRow_chg (w : World) (g : Nat) (cs : Array Value) : Chg (· = g) w (w.setRow g cs) := ⟨rfl, rfl, rfl, by simp [World.setRow], fun k hk hn => setRow_other w g k cs hn⟩
theorem setRow_blk {w : World} {g : Nat} {old cs : Array Value} {T : TypeId} (h : Blk w g old T) : Blk (w.setRow g cs) g cs T := by
  unfold Blk World.setRow at *
  rw [Array.getElem?_modify, if_pos rfl, h]
  rfl
theorem PGs (d : By) : (Tryz.prog.info? 197).map (·.size) = some (bcells d 4096).toArray.size := by
  rw [List.size_toArray, bcells_len]
  kernel_rfl
set_option maxHeartbeats 4000000 in
set_option maxRecDepth 100000 in
theorem setPage_any {S Sd : Nat → Prop} {w : World} {mb fr : Nat} {b : By} (h : MemAt w S mb b fr) (f : Nat) (hf : f < fr) (v : Value) (n : Nat) (d : By) (hd : ByOk d) (hs : Sl w Sd 1 v n (bcells d n)) (hn : n ≤ 4096) :
    Calls Tryz.prog 86 #[.pointer (some ⟨mb, 0, none⟩), .int .i64 f, v] w (RetW (.int .i64 0) fun w' => MemAt w' (Grow S w) mb (layPg b f (padF d n)) fr ∧ Chg S w w') := by
  have H0 := Lib.hid (frame_any h f hf)
  have t1 : decide ((4096 : Int) < n) = false := decide_eq_false (by omega)
  have t2 : decide (4096 < n) = false := decide_eq_false (by omega)
  have Hh := Lib.hid h
  obtain ⟨hsl, p, cap, rfl, hcap, hsp⟩ := hs
  clear h
  go_enter Tryz.func86, Tryz.ntmps86
  go_wp2_with fail
  with_reducible refine H0.out.mono ?_
  rintro e w1 ⟨rfl, hw1⟩
  subst hw1
  go_upto_region 7 with fail
  have hb0 : Blk (w1.alloc (.cells Tryz.zeroCells197 197)) w1.heap.size (bcells (fun _ => 0) 4096).toArray 197 := by
    rw [← zeroPage]
    exact Blk.new w1 _ _
  have ha0 := (Chg.refl NoB w1).alloc (.cells Tryz.zeroCells197 197)
  have hn64 : (n : Int) ≤ 9223372036854775807 := by omega
  go_cut [18, 19, 20] (fun a b c wx => Blk wx w1.heap.size (bcells (padF d n) 4096).toArray 197 ∧ Chg NoB w1 wx)
  case first =>
    by_cases h0 : n = 0
    · subst h0
      have HB : Hid (Blk (w1.alloc (.cells Tryz.zeroCells197 197)) w1.heap.size (bcells (padF d 0) 4096).toArray 197) := Lib.hid (by
        rw [show padF d 0 = fun _ => 0 from funext fun i => by unfold padF; rw [if_neg (by omega)]]
        exact hb0)
      have HA := Lib.hid ha0
      have hcp := run_copy_none (P := Tryz.prog) (w1.alloc (.cells Tryz.zeroCells197 197)) 50 50 3 5 (some ⟨w1.heap.size, 0, none⟩) p 4096 4096 0 cap Tryz.underlying50 (by kernel_rfl) (by simp)
      clear hb0 ha0 hsp
      go_wp2_with fail
      go_meet
      exact ⟨HB.out, HA.out⟩
    · obtain ⟨g, off, rfl, -, hg, hc⟩ := hsp (by omega)
      have hsrc : ∀ j v, (bcells d n)[j]? = some v → (w1.alloc (.cells Tryz.zeroCells197 197)).cell? ((⟨g, off, none⟩ : Addr).add j) = some v := fun j v hv => by
        rw [Addr.add_lit]
        exact ha0.cell (hc j v hv) id
      have hone : ∀ v ∈ bcells d n, v.oneCell' = true := by unfold bcells; simp [Value.oneCell']
      have HR : Hid (((bcells (fun _ => 0) 4096).toArray.toList.take 0 ++ (bcells d n ++ (bcells (fun _ => 0) 4096).toArray.toList.drop (0 + (bcells d n).length))) = bcells (padF d n) 4096) := Lib.hid (by
        simp only [List.take_zero, List.nil_append, bcells_len, Nat.zero_add]
        apply List.ext_getElem?
        intro j
        by_cases hj : j < n
        · rw [List.getElem?_append_left (by rw [bcells_len]; exact hj), bcells_get hj, bcells_get (by omega)]
          unfold padF
          rw [if_pos hj]
        · rw [List.getElem?_append_right (by rw [bcells_len]; omega), bcells_len, List.getElem?_drop, show n + (j - n) = j by omega]
          by_cases hj2 : j < 4096
          · rw [bcells_get hj2, bcells_get hj2]
            unfold padF
            rw [if_neg hj]
          · rw [List.getElem?_eq_none (by rw [bcells_len]; omega), List.getElem?_eq_none (by rw [bcells_len]; omega)])
      have HB0 := Lib.hid hb0
      have HA := Lib.hid ha0
      have hsl' : (bcells d n).length = Nat.min n 4096 := by rw [bcells_len]; exact (Nat.min_eq_left hn).symm
      have hfit : 0 + (bcells d n).length ≤ (bcells (fun _ => 0) 4096).toArray.size := by rw [bcells_len, List.size_toArray, bcells_len]; omega
      obtain ⟨Cs, hCs⟩ : ∃ Cs, bcells d n = Cs := ⟨_, rfl⟩
      obtain ⟨Z, hZ⟩ : ∃ Z, (bcells (fun _ => 0) 4096).toArray = Z := ⟨_, rfl⟩
      rw [hCs] at hsrc hone HR hsl' hfit
      rw [hZ] at HR HB0 hfit
      have hcp := run_copy_row (P := Tryz.prog) (w1.alloc (.cells Tryz.zeroCells197 197)) 50 50 3 5 w1.heap.size 0 4096 4096 ⟨g, off, none⟩ n cap Z 197 Cs Tryz.underlying50 (by kernel_rfl) HB0.out hsl' hsrc hfit hone
      rw [List.append_assoc, HR.out] at hcp
      clear hb0 ha0 hsp hc hsl hCs hZ
      have HX := Lib.hid (setRow_blk (cs := (bcells (padF d n) 4096).toArray) HB0.out)
      have HC : Hid (Chg NoB w1 ((w1.alloc (.cells Tryz.zeroCells197 197)).setRow w1.heap.size (bcells (padF d n) 4096).toArray)) := Lib.hid (HA.out.trans (setRow_chg _ _ _) fun k hk e => by
        have : k = w1.heap.size := e
        omega)
      clear hsrc hone hfit hsl'
      go_wp2_with fail
      go_meet
      exact ⟨HX.out, HC.out⟩
  case rest =>
    obtain ⟨hbl, hch⟩ := hcut
    have HCD : Hid (Chg NoB w1 wc.drew) := Lib.hid hch.drew
    have HBD : Hid (Blk wc.drew w1.heap.size (bcells (padF d n) 4096).toArray 197) := Lib.hid hbl.drew
    have HO := Lib.hid fun w' (c : Chg NoB w1 w') => own_any ((Hh.out.mono (S' := fun k => S k ∧ k < w1.heap.size) fun k hk hs => ⟨hs, hk⟩).chg0 c) f
    clear hbl hch
    go_upto_region 8 with fail
    refine wp_region_all 4 2 [0, 1] (fun _ => True) (by kernel_rfl) (by kernel_rfl) (fun _ _ _ _ _ h => h) (trivial) ?_
    simp only [pickOps_nil, pickOps_cons, Option.getD_some, List.getElem?_toArray, List.getElem?_cons_zero, List.getElem?_cons_succ, List.cons_append, List.nil_append, List.drop_succ_cons, List.drop_zero]
    repeat
      refine wpTake_cons' rfl ?_
      apply Exists.intro
      refine ⟨fun wS hS => ?_, ?_⟩
      · try dsimp only at hS
        obtain _ := hS
        go_simp
        try rfl
      simp only [Act.put, List.setIfInBounds_toArray, List.set_cons_zero, List.set_cons_succ]
    refine wpTake_nil ?_
    refine wpAll_cons [2, 3] (by kernel_rfl) ?_
    intro i hi
    simp only [List.mem_cons, List.not_mem_nil, or_false] at hi
    rcases hi with rfl | rfl
    ·
      refine ⟨_, rfl, rfl, fun K hK => ?_⟩
      go_simp
      with_reducible refine (HO.out _ HCD.out).mono ?_
      rintro e w9 ⟨g, rfl, mp, m, h1, h2, h3, h4, h5, h6, hg, C9⟩
      refine hK _ _ trivial ?_
      have HB9 := Lib.hid (C9.blk HBD.out (fun h => Nat.lt_irrefl _ h.2))
      clear hK K
      try simp only [Act.put, List.setIfInBounds_toArray, List.set_cons_zero, List.set_cons_succ]
      refine wpAll_cons [3] (by kernel_rfl) ?_
      intro i hi
      simp only [List.mem_cons, List.not_mem_nil, or_false] at hi
      subst hi
      refine ⟨_, rfl, rfl, fun K hK => ?_⟩
      refine wp_load_row 197 _ (by rfl) _ (by rfl) _ _ _ _ (HB9).out Tryz.underlying197 rfl (PGs _) ?_
      refine hK _ _ trivial ?_
      clear hK K
      try simp only [Act.put, List.setIfInBounds_toArray, List.set_cons_zero, List.set_cons_succ]
      refine wpAll_nil ?_
      obtain ⟨g1, g2, g3⟩ := h6.blk _ hg
      refine wpList_plain rfl fun K hK => ?_
      go_simp
      refine hK _ _ ?_
      clear hK K
      try simp only [Act.put, List.setIfInBounds_toArray, List.set_cons_zero, List.set_cons_succ]
      refine wpList_plain rfl fun K hK => ?_
      refine wp_store_row 197 _ _ (by rfl) g (bcells (padF d n) 4096).toArray (by rfl) (by rfl) _ _ g3 (PGs _) (by rw [List.size_toArray, List.size_toArray, bcells_len, bcells_len]) (by unfold bcells; simp [Value.oneCell']) ?_
      refine hK _ _ ?_
      clear hK K
      have HR : Hid (MemAt (w9.setRow g (bcells (padF d n) 4096).toArray) (Grow S w1) mb (layPg b f (padF d n)) fr ∧ Chg S w1 (w9.setRow g (bcells (padF d n) 4096).toArray)) := Lib.hid (by
        have CR := setRow_chg w9 g (bcells (padF d n) 4096).toArray
        have hsz := HCD.out.size
        have hgr : ∀ k, Grow (fun k => S k ∧ k < w1.heap.size) wc.drew k → Grow S w1 k := fun k hk => by
          rcases hk with hk | hk
          · exact .inl hk.1
          · exact .inr (by omega)
        have hP := h6.lay hg CR (setRow_blk g3) (padF_ok hd)
        refine ⟨⟨mp, m, hgr _ h1, hgr _ h2, h3, CR.blk h4 (fun e => g1.2.1 e.symm), h5.chg CR (fun e => g1.2.2 e.symm), hP.mono fun k _ h => ⟨hgr k h.1, h.2⟩⟩, ?_⟩
        refine ((HCD.out.mono (S' := S) fun _ _ h => h.elim).trans C9 fun k _ h => h.1).trans CR fun k hk e => ?_
        have e : k = g := e
        rw [e]
        rcases g1.1 with h | h
        · exact h.1
        · have h : wc.drew.heap.size ≤ g := h
          omega)
      clear h1 h2 h3 h4 h5 h6 hg g1 g2 g3 C9 HB9
      generalize w9.setRow g (bcells (padF d n) 4096).toArray = wz at *
      go_wp2_with fail
      go_ret
      exact ⟨rfl, HR.out⟩
    ·
      refine ⟨_, rfl, rfl, fun K hK => ?_⟩
      refine wp_load_row 197 _ (by rfl) _ (by rfl) _ _ _ _ (HBD).out Tryz.underlying197 rfl (PGs _) ?_
      refine hK _ _ trivial ?_
      clear hK K
      try simp only [Act.put, List.setIfInBounds_toArray, List.set_cons_zero, List.set_cons_succ]
      refine wpAll_cons [2] (by kernel_rfl) ?_
      intro i hi
      simp only [List.mem_cons, List.not_mem_nil, or_false] at hi
      subst hi
      refine ⟨_, rfl, rfl, fun K hK => ?_⟩
      go_simp
      with_reducible refine (HO.out _ HCD.out).mono ?_
      rintro e w9 ⟨g, rfl, mp, m, h1, h2, h3, h4, h5, h6, hg, C9⟩
      refine hK _ _ trivial ?_
      have HB9 := Lib.hid (C9.blk HBD.out (fun h => Nat.lt_irrefl _ h.2))
      clear hK K
      try simp only [Act.put, List.setIfInBounds_toArray, List.set_cons_zero, List.set_cons_succ]
      refine wpAll_nil ?_
      obtain ⟨g1, g2, g3⟩ := h6.blk _ hg
      refine wpList_plain rfl fun K hK => ?_
      go_simp
      refine hK _ _ ?_
      clear hK K
      try simp only [Act.put, List.setIfInBounds_toArray, List.set_cons_zero, List.set_cons_succ]
      refine wpList_plain rfl fun K hK => ?_
      refine wp_store_row 197 _ _ (by rfl) g (bcells (padF d n) 4096).toArray (by rfl) (by rfl) _ _ g3 (PGs _) (by rw [List.size_toArray, List.size_toArray, bcells_len, bcells_len]) (by unfold bcells; simp [Value.oneCell']) ?_
      refine hK _ _ ?_
      clear hK K
      have HR : Hid (MemAt (w9.setRow g (bcells (padF d n) 4096).toArray) (Grow S w1) mb (layPg b f (padF d n)) fr ∧ Chg S w1 (w9.setRow g (bcells (padF d n) 4096).toArray)) := Lib.hid (by
        have CR := setRow_chg w9 g (bcells (padF d n) 4096).toArray
        have hsz := HCD.out.size
        have hgr : ∀ k, Grow (fun k => S k ∧ k < w1.heap.size) wc.drew k → Grow S w1 k := fun k hk => by
          rcases hk with hk | hk
          · exact .inl hk.1
          · exact .inr (by omega)
        have hP := h6.lay hg CR (setRow_blk g3) (padF_ok hd)
        refine ⟨⟨mp, m, hgr _ h1, hgr _ h2, h3, CR.blk h4 (fun e => g1.2.1 e.symm), h5.chg CR (fun e => g1.2.2 e.symm), hP.mono fun k _ h => ⟨hgr k h.1, h.2⟩⟩, ?_⟩
        refine ((HCD.out.mono (S' := S) fun _ _ h => h.elim).trans C9 fun k _ h => h.1).trans CR fun k hk e => ?_
        have e : k = g := e
        rw [e]
        rcases g1.1 with h | h
        · exact h.1
        · have h : wc.drew.heap.size ≤ g := h
          omega)
      clear h1 h2 h3 h4 h5 h6 hg g1 g2 g3 C9 HB9
      generalize w9.setRow g (bcells (padF d n) 4096).toArray = wz at *
      go_wp2_with fail
      go_ret
      exact ⟨rfl, HR.out⟩
end Go.Proofs.YtdjaeoeejcmhdaaGreatDoor
set_option linter.unusedVariables false
set_option linter.unusedSimpArgs false
namespace Go.Proofs.YtdjaeoeejcmhdaaGreatDoor
open Go.RowKit Go.RR
/-- The map of the frames that are taken. -/
def tkMap (l : List Nat) : List (Int × Value) := l.map fun f : Nat => ((f : Int), .bool true)
theorem tkMap_add (l : List Nat) (n : Nat) : mput (tkMap l) n (.bool true) = tkMap (addN l n) := by
  induction l with
  | nil => rfl
  | cons x l ih =>
    show (if (x : Int) = (n : Int) then _ else _) = tkMap (if x = n then _ else _)
    by_cases h : x = n
    · rw [if_pos h, if_pos (by omega)]; rfl
    · rw [if_neg h, if_neg (by omega)]
      show _ :: mput (tkMap l) n _ = _
      rw [ih]
      rfl
/-- A stock in block sb, its map in block mp. -/
structure StkAt (w : World) (sb mp : Nat) (s : Stk) : Prop where
  ne : mp ≠ sb
  blk : Blk w sb #[.int .i64 s.first, .int .i64 s.next, .int .i64 s.fin, .slice none 0 0, .map (some mp)] 164
  map : MapAt w mp .i64 (tkMap s.taken)
  sm : s.fin ≤ 2097152
theorem StkAt.chg {w w' : World} {S : Nat → Prop} {sb mp : Nat} {s : Stk} (h : StkAt w sb mp s) (c : Chg S w w') (h1 : ¬ S sb) (h2 : ¬ S mp) : StkAt w' sb mp s :=
  ⟨h.ne, c.blk h.blk h1, h.map.chg c h2, h.sm⟩
set_option maxRecDepth 100000 in
theorem stkNew_any (n : Nat) (w : World) (hn : n ≤ 1048576) : Calls Tryz.prog 35 #[.int .i64 0, .int .i64 n] w (RetW (.tuple #[.pointer (some ⟨w.heap.size + 1, 0, none⟩), .int .i64 0]) fun w' => StkAt w' (w.heap.size + 1) w.heap.size ⟨0, 0, n, []⟩ ∧ Chg NoB w w') := by
  have t1 : decide ((n : Int) < 0) = false := decide_eq_false (by omega)
  have t2 : decide ((1048576 : Int) < n) = false := decide_eq_false (by omega)
  have t3 : decide (1048576 < n) = false := decide_eq_false (by omega)
  have mk : ∀ w, (Instr.makeMap 162 none).run Tryz.prog w = .ok (.map (some w.heap.size)) (w.alloc (.map #[] 0)) := fun _ => rfl
  have HR : Hid (StkAt ((w.alloc (.map #[] 0)).alloc (.cells #[.int .i64 0, .int .i64 0, .int .i64 n, .slice none 0 0, .map (some w.heap.size)] 164)) (w.heap.size + 1) w.heap.size ⟨0, 0, n, []⟩ ∧ Chg NoB w ((w.alloc (.map #[] 0)).alloc (.cells #[.int .i64 0, .int .i64 0, .int .i64 n, .slice none 0 0, .map (some w.heap.size)] 164))) := Lib.hid (by
    refine ⟨⟨by omega, ?_, ?_, by show n ≤ _; omega⟩, (((Chg.refl NoB w).alloc _).alloc _)⟩
    · have := Blk.new (w.alloc (.map #[] 0)) #[.int .i64 0, .int .i64 0, .int .i64 n, .slice none 0 0, .map (some w.heap.size)] 164
      simpa using this
    · exact (MapAt.new w .i64).chg ((Chg.refl NoB _).alloc _) id)
  go_enter Tryz.func35, Tryz.ntmps35
  go_wp2_with fail
  go_ret2
  exact ⟨rfl, HR.out⟩
set_option maxRecDepth 100000 in
theorem stkTake_some {w : World} {sb mp : Nat} {s : Stk} (h : StkAt w sb mp s) (hlt : s.next < s.fin) :
    Calls Tryz.prog 80 #[.pointer (some ⟨sb, 0, none⟩)] w (RetW (.tuple #[.int .i64 s.next, .int .i64 0])
      fun w' => StkAt w' sb mp { s with next := s.next + 1, taken := addN s.taken s.next } ∧ Chg (fun k => k = sb ∨ k = mp) w w') := by
  have H := Lib.hid h
  have e0 := h.blk.cell' (i := 0) (v := .int .i64 s.first) rfl
  have e1 := h.blk.cell' (i := 1) (v := .int .i64 s.next) rfl
  have e2 := h.blk.cell' (i := 2) (v := .int .i64 s.fin) rfl
  have e3 := h.blk.cell' (i := 3) (v := .slice none 0 0) rfl
  have e4 := h.blk.cell' (i := 4) (v := .map (some mp)) rfl
  have hl := h.blk.lt
  have hfz := h.blk.frozen 1
  have hsm := h.sm
  have t1 : decide ((s.next : Int) < s.fin) = true := decide_eq_true (by omega)
  have t2 : decide (s.next < s.fin) = true := decide_eq_true hlt
  have hup : ((s.next : Int) + 1) ≤ 9223372036854775807 := by omega
  obtain ⟨nx, hnx⟩ : ∃ nx, s.next = nx := ⟨_, rfl⟩
  have HM := Lib.hid fun (w1 : World) (hm : MapAt w1 mp .i64 (tkMap s.taken)) => run_mapput (P := Tryz.prog) Tryz.underlying162 Tryz.underlying3 hm nx (.bool true)
  have HR : Hid (∀ w1 w2, Blk w1 sb #[.int .i64 s.first, .int .i64 (nx + 1), .int .i64 s.fin, .slice none 0 0, .map (some mp)] 164 → Chg (fun k => k = sb) w w1 → MapAt w2 mp .i64 (mput (tkMap s.taken) nx (.bool true)) → Chg (fun k => k = mp) w1 w2 → StkAt w2 sb mp { s with next := nx + 1, taken := addN s.taken nx } ∧ Chg (fun k => k = sb ∨ k = mp) w w2) := Lib.hid (by
    intro w1 w2 hb c1 hm c2
    refine ⟨⟨h.ne, c2.blk hb (fun e => h.ne e.symm), by show MapAt _ _ _ (tkMap (addN _ _)); rw [← tkMap_add]; exact hm, h.sm⟩, ?_⟩
    exact (c1.mono (S' := fun k => k = sb ∨ k = mp) fun k _ e => .inl e).trans c2 fun k _ e => .inr e)
  rw [hnx] at e1 t1 t2 hup ⊢
  have HN := Lib.hid hnx
  clear h hlt hsm hnx
  go_enter Tryz.func80, Tryz.ntmps80
  go_upto_region 9 with fail
  go_quiet (fail)
  have C0 := (Chg.refl (fun k => k = sb) w).drewN nq
  have B0 := (H.out.blk).drewN nq
  rw [HN.out] at B0
  have M0 := H.out.map.chg ((Chg.refl NoB w).drewN nq) id
  generalize w.drewN nq = wq at *
  obtain ⟨w2, hmu, hma, hmc⟩ := HM.out _ (M0.chg (w' := wq.setCell ⟨sb, 1, none⟩ (.int .i64 ((nx : Int) + 1))) (S := fun k => k = sb) ((Chg.refl (fun k => k = sb) wq).setCell (.inl rfl) _) H.out.ne)
  have HX := Lib.hid (HR.out _ w2 (B0.set 1 (.int .i64 ((nx : Int) + 1))) (C0.setCell (.inl rfl) _) hma hmc)
  have e1 := B0.cell' (i := 1) (v := .int .i64 nx) rfl
  have e4 := B0.cell' (i := 4) (v := .map (some mp)) rfl
  have hl := B0.lt
  have hfz := B0.frozen 1
  clear B0 C0 M0 hma hmc H HM HR
  go_wp2_with fail
  go_ret2
  exact ⟨rfl, HX.out⟩
set_option maxRecDepth 100000 in
theorem stkTake_none {w : World} {sb mp : Nat} {s : Stk} (h : StkAt w sb mp s) (hge : s.fin ≤ s.next) :
    Calls Tryz.prog 80 #[.pointer (some ⟨sb, 0, none⟩)] w (RetW (.tuple #[.int .i64 (-1), .int .i64 50]) fun w' => Chg NoB w w') := by
  have e0 := h.blk.cell' (i := 0) (v := .int .i64 s.first) rfl
  have e1 := h.blk.cell' (i := 1) (v := .int .i64 s.next) rfl
  have e2 := h.blk.cell' (i := 2) (v := .int .i64 s.fin) rfl
  have e3 := h.blk.cell' (i := 3) (v := .slice none 0 0) rfl
  have e4 := h.blk.cell' (i := 4) (v := .map (some mp)) rfl
  have hl := h.blk.lt
  have hfz := h.blk.frozen 1
  have t1 : decide ((s.next : Int) < s.fin) = false := decide_eq_false (by omega)
  have t2 : decide (s.next < s.fin) = false := decide_eq_false (by omega)
  clear h hge
  go_enter Tryz.func80, Tryz.ntmps80
  go_upto_region 9 with fail
  go_quiet (fail)
  have HC := Lib.hid ((Chg.refl NoB w).drewN nq)
  go_wp2_with fail
  go_ret2
  exact ⟨rfl, HC.out⟩
end Go.Proofs.YtdjaeoeejcmhdaaGreatDoor
