/- Homes that talk: the plan of one act, two pages side by side. Plain, no program. No condition. Homes that talk: some of them are made, a map of words. No condition. Homes that talk: an act, up to where it is done. Plain, no program. No condition. -/
import Derived.Test.YtdjaeoeejcmhdaaGreatDoorHy
import Derived.Test.YtdjaeoeejcmhdaaGreatDoorIa
import Derived.Test.YtdjaeoeejcmhdaaGreatDoorGa
set_option linter.unusedVariables false
set_option linter.unusedSimpArgs false
namespace Go.Proofs.YtdjaeoeejcmhdaaGreatDoor
open Go.RowKit Go.RR
theorem getW_nil24 : ∀ n a : Nat, getW (fun _ => 0) a n = 0
  | 0, _ => rfl
  | n + 1, a => by
    show 0 + 256 * getW (fun _ => 0) (a + 1) n = 0
    rw [getW_nil24 n]
theorem rest_start {k p : Nat} (hp : p < k) : Rest k (G024 k p) p (fun i => if i = p then 0 else 1) := by
  have e : ∀ i : Nat, (G024 k p).st i = ⟨0, decide ((p : Int) = i), p, 0, 0, 0, false, -1⟩ := fun i => by
    show pgNewF i ((p : Int) % k) = _
    unfold pgNewF
    rw [Int.emod_eq_of_lt (by omega) (by omega)]
  refine ⟨hp, fun i hi => ?_, fun i hi => ?_, fun i hi hne => ?_, ?_, fun i h => ?_, fun i hi h => ?_, if_pos rfl, fun i hi hne => ?_⟩
  · rw [e]
    by_cases h : i = p
    · rw [h, decide_eq_true rfl, decide_eq_true rfl]
    · rw [decide_eq_false h, decide_eq_false (by omega)]
  · rw [e]; exact ⟨rfl, rfl, rfl, rfl⟩
  · rw [e, e]
    refine ⟨rfl, .inl rfl, fun h => ?_, fun h => ?_⟩
    · cases h
    · rw [Nat.zero_testBit] at h; cases h
  · rw [e]; exact .inl rfl
  · rw [e, Nat.zero_testBit] at h; cases h
  · rfl
  · rw [e]
    refine ⟨by show (0 : Int) ≤ p; omega, by show (p : Int) < k; omega, ?_⟩
    show (if ((p : Int)).toNat = p then 0 else 1) < if i = p then 0 else 1
    rw [Int.toNat_natCast, if_pos rfl, if_neg hne]
    decide
theorem pg_start {k p : Nat} (hp : p < k) : Pg24 k (G024 k p) (fun _ => 0) 1 :=
  ⟨p, _, rest_start hp, fun i hi => by split <;> omega, fun j hj => getW_nil24 8 _⟩
theorem sm_start {k p : Nat} : SmG k (G024 k p) [] := ⟨fun i hi => ⟨by show 0 < 32; decide, by show 0 < 32; decide⟩, fun x hx => absurd hx List.not_mem_nil⟩
theorem Pg24.mono {k : Nat} {G : Gs} {hv : Nat → Nat} {D D' : Nat} (h : Pg24 k G hv D) (hD : D ≤ D') : Pg24 k G hv D' := by
  obtain ⟨o, dist, a, b, c⟩ := h
  exact ⟨o, dist, a, fun i hi => Nat.le_trans (b i hi) hD, c⟩
theorem Pg24.fr {k : Nat} {G : Gs} {hv : Nat → Nat} {D : Nat} (h : Pg24 k G hv D) {i : Nat} (hi : i < k) : (G.st i).busy = false := by
  obtain ⟨o, dist, a, b, c⟩ := h
  obtain ⟨h1, h2, -, -⟩ := a.fr i hi
  unfold PgS.busy
  rw [h1, h2]
  rfl
/-- The bytes at a place of one page, another one's as they were. -/
def ActTo (k : Nat) (G : Nat → Gs) (hv : Nat → Nat → Nat) (D : Nat) : Prop := ∀ q, q < 2 → Pg24 k (G q) (hv q) D ∧ SmG k (G q) []
theorem ActTo.upd {k : Nat} {G : Nat → Gs} {hv : Nat → Nat → Nat} {D D' : Nat} (h : ActTo k G hv D) (hD : D ≤ D') {p : Nat} {G' : Gs} {v : Nat → Nat} (h1 : Pg24 k G' v D') (h2 : SmG k G' []) : ActTo k (updG G p G') (updG hv p v) D' := fun q hq => by
  by_cases e : q = p
  · rw [e, updG_at, updG_at]; exact ⟨h1, h2⟩
  · rw [updG_ne _ _ e, updG_ne _ _ e]; exact ⟨(h q hq).1.mono hD, (h q hq).2⟩
theorem act_plan {k : Nat} {G : Nat → Gs} {hv : Nat → Nat → Nat} {D : Nat} (hk5 : k ≤ 5) (h : ActTo k G hv D) {p r j : Nat} (hp : p < 2) (hr : r < k) (hj : j < 3) {acc : Int} (hacc : acc = 1 ∨ acc = 2) :
    ((G p).st r).busy = false ∧ Sm ((G p).st r) ∧ SmG k (turnG (G p) r (wantF r ((G p).st r) acc) noB).1 (turnG (G p) r (wantF r ((G p).st r) acc) noB).2 ∧
    ∃ n G', Runs24 k n (turnG (G p) r (wantF r ((G p).st r) acc) noB).1 (turnG (G p) r (wantF r ((G p).st r) acc) noB).2 G' ∧ n ≤ D + 40 ∧ acc ≤ (G'.st r).right ∧ (G'.st r).forget < 0 ∧
      getW (G'.ct r) (8 * j) 8 = hv p j ∧
      (∀ c, turnG ⟨G'.st, c⟩ r (doneF r (G'.st r)) noB = (⟨(doneG G' r).st, c⟩, [])) ∧
      ActTo k (updG G p ⟨(doneG G' r).st, G'.ct⟩) hv (D + 3) ∧
      (acc = 2 → ∀ x, x < 18446744073709551616 → ActTo k (updG G p ⟨(doneG G' r).st, updG G'.ct r (putW (G'.ct r) (8 * j) 8 x)⟩) (updG hv p (updG (hv p) j x)) (D + 3)) := by
  obtain ⟨hP, hS⟩ := h p hp
  obtain ⟨n, G', hG, hn, hri, hfo, hdn, hgt, hP1, hP2⟩ := act24 (by omega) hP hr hacc
  have hsm : SmG k (turnG (G p) r (wantF r ((G p).st r) acc) noB).1 (turnG (G p) r (wantF r ((G p).st r) acc) noB).2 := turn_sm (q := []) hS (want_sm (hS.1 r hr))
  have hrun : Runs24 k n (turnG (G p) r (wantF r ((G p).st r) acc) noB).1 (turnG (G p) r (wantF r ((G p).st r) acc) noB).2 G' := by
    have := hG 0 G' (runs_nil k 0 G')
    rwa [Nat.add_zero] at this
  refine ⟨hP.fr hr, hS.1 r hr, hsm, n, G', hrun, hn, hri, by rw [hfo]; decide, hgt j hj, fun c => hdn c noB, ?_, fun e x hx => ?_⟩
  all_goals
    have hsm' : SmG k G' [] := runs_sm hk5 n hrun hsm
    have hsd : ∀ c, SmG k ⟨(doneG G' r).st, c⟩ [] := fun c => ⟨fun i hi => by
      show Sm ((doneG G' r).st i)
      rw [done_st]
      split
      · exact hsm'.1 r hr
      · exact hsm'.1 i hi, fun x hx => absurd hx List.not_mem_nil⟩
  · have := h.upd (D' := D + 3) (by omega) (p := p) (G' := ⟨(doneG G' r).st, G'.ct⟩) (v := hv p) hP1 (hsd _)
    rwa [updG_same] at this
  · exact h.upd (D' := D + 3) (by omega) (p := p) (hP2 e j x hj hx) (hsd _)
end Go.Proofs.YtdjaeoeejcmhdaaGreatDoor
set_option linter.unusedVariables false
set_option linter.unusedSimpArgs false
namespace Go.Proofs.YtdjaeoeejcmhdaaGreatDoor
open Go.RowKit Go.RR
theorem SPPi : (Tryz.prog.info? 26).map (fun i => (i.zero, i.size, i.bytes)) = some (some (.pointer none), 1, 8) := by kernel_rfl
theorem HPPi : (Tryz.prog.info? 27).map (fun i => (i.zero, i.size, i.bytes)) = some (some (.pointer none), 1, 8) := by kernel_rfl
theorem U64i24 : (Tryz.prog.info? 33).map (fun i => (i.zero, i.size, i.bytes)) = some (some (.int .u64 0), 1, 8) := by kernel_rfl
theorem mlook_put {m : List (Int × Value)} {a : Int} {v : Value} (x : Int) : mlook (mput m a v) x = if x = a then some v else mlook m x := by
  induction m with
  | nil =>
    by_cases h : x = a
    · simp [mput, mlook, h]
    · have : ¬ a = x := fun e => h e.symm
      simp [mput, mlook, h, this]
  | cons p m ih =>
    unfold mput
    by_cases hp : p.1 = a
    · rw [if_pos hp]
      by_cases h : x = a
      · simp [mlook, h]
      · have h1 : (a == x) = false := by simpa using fun e => h e.symm
        have h2 : (p.1 == x) = false := by rw [hp]; exact h1
        simp [mlook, h, h1, h2]
    · rw [if_neg hp]
      by_cases h : x = a
      · have h2 : (p.1 == x) = false := by rw [h]; simpa using hp
        have := ih
        simp only [mlook, List.find?_cons, h2] at this ⊢
        exact this
      · have := ih
        rw [if_neg h] at this ⊢
        cases h2 : (p.1 == x)
        · simp only [mlook, List.find?_cons, h2] at this ⊢
          exact this
        · simp only [mlook, List.find?_cons, h2]
/-- A map of words: what is read at each number. -/
def MemQ (w : World) (mb : Nat) (g : Nat → Nat) : Prop := ∃ m, MapAt w mb .u64 m ∧ ∀ x : Nat, (mlook m x).getD (.int .u64 0) = .int .u64 (g x)
theorem MemQ.chg {w w' : World} {S : Nat → Prop} {mb : Nat} {g : Nat → Nat} (h : MemQ w mb g) (c : Chg S w w') (hn : ¬ S mb) : MemQ w' mb g := by
  obtain ⟨m, h1, h2⟩ := h
  exact ⟨m, h1.chg c hn, h2⟩
theorem MemQ.lt {w : World} {mb : Nat} {g : Nat → Nat} (h : MemQ w mb g) : mb < w.heap.size := by
  obtain ⟨m, h1, h2⟩ := h
  exact h1.lt
theorem MemQ.look {w : World} {mb : Nat} {g : Nat → Nat} (h : MemQ w mb g) (x : Nat) : (Instr.lookup 31 (.map (some mb)) (.int .u64 x) false).run Tryz.prog w = .ok (.int .u64 (g x)) w := by
  obtain ⟨m, h1, h2⟩ := h
  obtain ⟨i0, hi0, hz0, hz1, hz2⟩ := info_parts U64i24
  have := run_look1 (P := Tryz.prog) Tryz.underlying31 Tryz.underlying33 hi0 hz0 h1 x
  rwa [h2] at this
theorem MemQ.put {w' : World} {mb : Nat} {g : Nat → Nat} {m : List (Int × Value)} (h2 : ∀ x : Nat, (mlook m x).getD (.int .u64 0) = .int .u64 (g x)) (a v : Nat) (h : MapAt w' mb .u64 (mput m a (.int .u64 v))) : MemQ w' mb (updG g a v) := ⟨_, h, fun x => by
  rw [mlook_put]
  by_cases e : x = a
  · rw [if_pos (by rw [e]), e, updG_at]; rfl
  · rw [if_neg (fun e2 => e (Int.ofNat_inj.1 e2)), updG_ne _ _ e]; exact h2 x⟩
theorem hlC_snoc (i : Nat) (hb : Nat → Nat) (h' : Nat) : hlC (i + 1) (updG hb i h') = hlC i hb ++ [.pointer (some ⟨h', 0, none⟩)] := by
  unfold hlC
  rw [List.range_succ, List.map_append]
  congr 1
  · refine List.map_congr_left fun j hj => ?_
    rw [updG_ne _ _ (by have := List.mem_range.1 hj; omega)]
  · simp [updG_at]
theorem HsP.chg {w w' : World} {i k : Nat} {hb spb : Nat → Nat} {F : Nat → Nat → Prop} {G : Nat → Gs} {S : Nat → Prop} (h : HsP w i k hb spb F G) (c : Chg S w w') (hs : ∀ b, FAll i F b → ¬ S b) : HsP w' i k hb spb F G := ⟨fun j hj => (h.nd j hj).chg c fun b hb => hs b ⟨j, hj, hb⟩, h.ap⟩
theorem HsP.lt {w : World} {i k : Nat} {hb spb : Nat → Nat} {F : Nat → Nat → Prop} {G : Nat → Gs} (h : HsP w i k hb spb F G) : ∀ b, FAll i F b → b < w.heap.size := fun b ⟨j, hj, hb⟩ => (h.nd j hj).lt b hb
/-- So many are made, and in two lists. -/
structure MadeI (w wr : World) (k i : Nat) (hb spb : Nat → Nat) (F : Nat → Nat → Prop) (vs vh : Value) : Prop where
  hs : HsP wr i k hb spb F (G024 k)
  lo : ∀ b, FAll i F b → w.heap.size ≤ b
  ls : ∃ SS SH : Nat → Prop, Own wr SS 26 1 vs i (hlC i spb) ∧ Own wr SH 27 1 vh i (hlC i hb) ∧ (∀ b, SS b → w.heap.size ≤ b ∧ b < wr.heap.size ∧ ¬ FAll i F b ∧ ¬ SH b) ∧ (∀ b, SH b → w.heap.size ≤ b ∧ b < wr.heap.size ∧ ¬ FAll i F b)
  ch : Chg NoB w wr
theorem MadeI.start (w : World) (k : Nat) : MadeI w w k 0 (fun _ => 0) (fun _ => 0) (fun _ _ => False) (.slice none 0 0) (.slice none 0 0) :=
  ⟨HsP.none .., fun b hb => (by obtain ⟨i, hi, -⟩ := hb; omega), ⟨NoB, NoB, Own.nil .., Own.nil .., fun b hb => hb.elim, fun b hb => hb.elim⟩, Chg.refl _ _⟩
theorem MadeI.snoc {w wr w3 w4 w5 : World} {k i : Nat} {hb spb : Nat → Nat} {F : Nat → Nat → Prop} {vs vh : Value} (hs : HsP wr i k hb spb F (G024 k)) (lo : ∀ b, FAll i F b → w.heap.size ≤ b) {SS SH : Nat → Prop} (oS : Own wr SS 26 1 vs i (hlC i spb)) (oH : Own wr SH 27 1 vh i (hlC i hb))
    (hSS : ∀ b, SS b → w.heap.size ≤ b ∧ b < wr.heap.size ∧ ¬ FAll i F b ∧ ¬ SH b) (hSH : ∀ b, SH b → w.heap.size ≤ b ∧ b < wr.heap.size ∧ ¬ FAll i F b) (ch : Chg NoB w wr) (c3 : Chg NoB wr w3) {h' s' : Nat} {F' : Nat → Prop} (hN : NdV w3 F' h' s' i k (fun p => (G024 k p).st i) (fun p => (G024 k p).ct i)) (hF : ∀ b, F' b → wr.heap.size ≤ b)
    {X Y : Obj} {v4 v5 : Value} (o4 : Own w4 (fun q => vs.ownBlock = some q ∨ q = w3.heap.size + 1) 26 1 v4 (i + 1) (hlC i spb ++ [.pointer (some ⟨s', 0, none⟩)])) (g4 : (w3.alloc X).grownBy w4 vs.ownBlock) (o5 : Own w5 (fun q => vh.ownBlock = some q ∨ q = w4.heap.size + 1) 27 1 v5 (i + 1) (hlC i hb ++ [.pointer (some ⟨h', 0, none⟩)])) (g5 : (w4.alloc Y).grownBy w5 vh.ownBlock) :
    MadeI w w5 k (i + 1) (updG hb i h') (updG spb i s') (updG F i F') v4 v5 := by
  have wS := oS.ownBlock
  have wH := oH.ownBlock
  have c4 : Chg SS w3 w4 := ((Chg.refl SS w3).alloc X).grown g4 fun q hq => .inl (wS q hq).1
  have c5 : Chg SH w4 w5 := ((Chg.refl SH w4).alloc Y).grown g5 fun q hq => .inl (wH q hq).1
  have z3 := c3.size
  have z4 := c4.size
  have z5 := c5.size
  have z0 := ch.size
  have lt3 := hN.lt
  have hA : ∀ b, FAll (i + 1) (updG F i F') b → (FAll i F b ∧ b < wr.heap.size) ∨ (F' b ∧ wr.heap.size ≤ b ∧ b < w3.heap.size) := fun b ⟨j, hj, hb⟩ => by
    by_cases e : j = i
    · rw [e, updG_at] at hb; exact .inr ⟨hb, hF b hb, lt3 b hb⟩
    · rw [updG_ne _ _ e] at hb
      have : FAll i F b := ⟨j, by omega, hb⟩
      exact .inl ⟨this, hs.lt b this⟩
  have oS4 : Own w4 (fun b => (SS b ∨ b = w3.heap.size + 1) ∧ b < w4.heap.size) 26 1 v4 (i + 1) (hlC (i + 1) (updG spb i s')) := by
    rw [hlC_snoc]
    exact o4.monoIn fun q h1 h2 => ⟨h2.imp (fun e => (wS q e).1) id, h1⟩
  have oH5 : Own w5 (fun b => (SH b ∨ b = w4.heap.size + 1) ∧ b < w5.heap.size) 27 1 v5 (i + 1) (hlC (i + 1) (updG hb i h')) := by
    rw [hlC_snoc]
    exact o5.monoIn fun q h1 h2 => ⟨h2.imp (fun e => (wH q e).1) id, h1⟩
  have oS5 := oS4.chg c5 fun b hb e => by
    have h1 := hSH b e
    rcases hb.1 with h2 | h2
    · exact (hSS b h2).2.2.2 e
    · omega
  refine ⟨((hs.snoc c3 hN hF).chg c4 fun b hb e => ?_).chg c5 fun b hb e => ?_, fun b hb => ?_, ⟨_, _, oS5, oH5, fun b hb => ?_, fun b hb => ?_⟩, ?_⟩
  · have h1 := hSS b e
    rcases hA b hb with h2 | h2
    · exact h1.2.2.1 h2.1
    · omega
  · have h1 := hSH b e
    rcases hA b hb with h2 | h2
    · exact h1.2.2 h2.1
    · omega
  · rcases hA b hb with h2 | h2
    · exact lo b h2.1
    · omega
  · rcases hb.1 with h1 | h1
    · have h2 := hSS b h1
      refine ⟨h2.1, by omega, fun e => ?_, fun e => ?_⟩
      · rcases hA b e with h3 | h3
        · exact h2.2.2.1 h3.1
        · omega
      · rcases e.1 with h3 | h3
        · exact h2.2.2.2 h3
        · omega
    · refine ⟨by omega, by have := hb.2; omega, fun e => ?_, fun e => ?_⟩
      · rcases hA b e with h3 | h3
        · omega
        · omega
      · rcases e.1 with h3 | h3
        · have := hSH b h3; omega
        · have := hb.2; omega
  · rcases hb.1 with h1 | h1
    · have h2 := hSH b h1
      refine ⟨h2.1, by omega, fun e => ?_⟩
      rcases hA b e with h3 | h3
      · exact h2.2.2 h3.1
      · omega
    · refine ⟨by omega, hb.2, fun e => ?_⟩
      rcases hA b e with h3 | h3
      · omega
      · omega
  · refine ((ch.step c3).trans c4 fun b h1 h2 => ?_).trans c5 fun b h1 h2 => ?_
    · have := hSS b h2; omega
    · have := hSH b h2; omega
theorem Sl.at24 {w : World} {S : Nat → Prop} {g o n c : Nat} {us : List Value} (h : Sl w S 1 (.slice (some ⟨g, o, none⟩) n c) n us) (h0 : 0 < n) : g < w.heap.size ∧ ∀ j u, us[j]? = some u → w.cell? ⟨g, o + j, none⟩ = some u := by
  obtain ⟨-, p, c', e, -, hr⟩ := h
  cases e
  obtain ⟨g', o', e, -, hg, hc⟩ := hr h0
  cases e
  exact ⟨hg, hc⟩
/-- All that the acts lean on. -/
structure AI (w wr : World) (k : Nat) (hb spb : Nat → Nat) (F : Nat → Nat → Prop) (G : Nat → Gs) (g : Nat → Nat) (mb : Nat) (SH SS : Nat → Prop) (vh vs : Value) : Prop where
  st : Stg24 w wr k hb spb F G
  mq : MemQ wr mb g
  sh : Sl wr SH 1 vh k (hlC k hb)
  ss : Sl wr SS 1 vs k (hlC k spb)
  ks : ∀ b, SH b ∨ SS b ∨ b = mb → b < wr.heap.size ∧ ¬ FAll k F b
  km : ∀ b, SH b ∨ SS b → b ≠ mb
  lo : w.heap.size ≤ mb
theorem AI.chg0 {w wr w' : World} {k : Nat} {hb spb : Nat → Nat} {F : Nat → Nat → Prop} {G : Nat → Gs} {g : Nat → Nat} {mb : Nat} {SH SS : Nat → Prop} {vh vs : Value} (h : AI w wr k hb spb F G g mb SH SS vh vs) (c : Chg NoB wr w') : AI w w' k hb spb F G g mb SH SS vh vs :=
  ⟨h.st.chg0 c, h.mq.chg c id, h.sh.chg0 c, h.ss.chg0 c, fun b hb => ⟨Nat.lt_of_lt_of_le (h.ks b hb).1 c.size, (h.ks b hb).2⟩, h.km, h.lo⟩
theorem AI.go {w wr w' : World} {k : Nat} {hb spb : Nat → Nat} {F F' : Nat → Nat → Prop} {G G' : Nat → Gs} {g : Nat → Nat} {mb : Nat} {SH SS : Nat → Prop} {vh vs : Value} (h : AI w wr k hb spb F G g mb SH SS vh vs) (st : Stg24 w w' k hb spb F' G') (hF : ∀ b, FAll k F' b → FAll k F b ∨ wr.heap.size ≤ b) (c : Chg (FAll k F) wr w') : AI w w' k hb spb F' G' g mb SH SS vh vs :=
  ⟨st, h.mq.chg c (h.ks mb (.inr (.inr rfl))).2, h.sh.chg c fun b hb => (h.ks b (.inl hb)).2, h.ss.chg c fun b hb => (h.ks b (.inr (.inl hb))).2, fun b hb => ⟨Nat.lt_of_lt_of_le (h.ks b hb).1 c.size, fun e => (hF b e).elim (h.ks b hb).2 fun e => by have := (h.ks b hb).1; omega⟩, h.km, h.lo⟩
theorem AI.post {w wr w' : World} {k : Nat} {hb spb : Nat → Nat} {F : Nat → Nat → Prop} {G G' : Nat → Gs} {g : Nat → Nat} {mb : Nat} {SH SS : Nat → Prop} {vh vs : Value} (h : AI w wr k hb spb F G g mb SH SS vh vs) (P : Hs24Post wr k hb spb F G' w') : ∃ F', AI w w' k hb spb F' G' g mb SH SS vh vs := by
  obtain ⟨F', a, b, c⟩ := h.st.post P
  exact ⟨F', h.go a b c⟩
theorem AI.posts {w wr w' : World} {k : Nat} {hb spb : Nat → Nat} {F : Nat → Nat → Prop} {G G' : Nat → Gs} {g : Nat → Nat} {mb : Nat} {SH SS : Nat → Prop} {vh vs : Value} {p : Nat} {q : List Po} {r : Value} (h : AI w wr k hb spb F G g mb SH SS vh vs) (P : Hs24Posts wr k hb spb F G' p q r w') :
    ∃ (F' : Nat → Nat → Prop) (SP : Nat → Prop), AI w w' k hb spb F' G' g mb SH SS vh vs ∧ PosAt w' SP r p q ∧ ∀ b, SP b → b < w'.heap.size ∧ ¬ FAll k F' b := by
  obtain ⟨F', SP, a, hp, hS, b, c⟩ := h.st.posts P
  exact ⟨F', SP, h.go a b c, hp, fun b hb => (hS b hb).2⟩
theorem AI.put {w wr w' : World} {k : Nat} {hb spb : Nat → Nat} {F : Nat → Nat → Prop} {G : Nat → Gs} {g g' : Nat → Nat} {mb : Nat} {SH SS : Nat → Prop} {vh vs : Value} (h : AI w wr k hb spb F G g mb SH SS vh vs) (m : MemQ w' mb g') (c : Chg (fun b => b = mb) wr w') : AI w w' k hb spb F G g' mb SH SS vh vs :=
  ⟨h.st.chg c (fun b hb e => (h.ks mb (.inr (.inr rfl))).2 (e ▸ hb)) (fun b e => by rw [e]; exact h.lo), m, h.sh.chg c fun b hb e => h.km b (.inl hb) e, h.ss.chg c fun b hb e => h.km b (.inr hb) e, fun b hb => ⟨Nat.lt_of_lt_of_le (h.ks b hb).1 c.size, (h.ks b hb).2⟩, h.km, h.lo⟩
theorem AI.rng {w wr : World} {k : Nat} {hb spb : Nat → Nat} {F : Nat → Nat → Prop} {G : Nat → Gs} {g : Nat → Nat} {mb : Nat} {SH SS : Nat → Prop} {vh vs : Value} (h : AI w wr k hb spb F G g mb SH SS vh vs) {p i : Nat} (hp : p < 2) (hi : i < k) : ((G p).st i).right ≤ 2 := by
  obtain ⟨SH, L, s, ps, hpb, hH, hS, hV, -⟩ := (h.st.hs.nd i hi).ex
  exact (hV.rng p hp).2
end Go.Proofs.YtdjaeoeejcmhdaaGreatDoor
set_option linter.unusedVariables false
set_option linter.unusedSimpArgs false
namespace Go.Proofs.YtdjaeoeejcmhdaaGreatDoor
open Go.RowKit Go.RR
/-- Behind the messages (and a store): what is loaded, what it is when it is done. -/
structure Mid24 (k : Nat) (G : Nat → Gs) (g : Nat → Nat) (hv : Nat → Nat → Nat) (p r jj va D X : Nat) : Prop where
  right : 1 ≤ ((G p).st r).right
  fo : ((G p).st r).forget < 0
  get : getW ((G p).ct r) (8 * jj) 8 = X
  look : g va = X
  nil : (turnG (G p) r (doneF r ((G p).st r)) noB).2 = []
  nx : ActTo k (updG G p (turnG (G p) r (doneF r ((G p).st r)) noB).1) hv D
  hg : ∀ q j, q < 2 → j < 3 → g (1073741824 + 8 * j + 4096 * q) = hv q j
theorem hg_put {g : Nat → Nat} {hv : Nat → Nat → Nat} (hg : ∀ q j, q < 2 → j < 3 → g (1073741824 + 8 * j + 4096 * q) = hv q j) {p jj va : Nat} (hva : va = 1073741824 + 4096 * p + 8 * jj) (hp : p < 2) (hj : jj < 3) (x : Nat) :
    ∀ q j, q < 2 → j < 3 → updG g va x (1073741824 + 8 * j + 4096 * q) = updG hv p (updG (hv p) jj x) q j := fun q j hq h3 => by
  by_cases e : q = p
  · rw [e, updG_at]
    by_cases e2 : j = jj
    · rw [e2, updG_at, show 1073741824 + 8 * jj + 4096 * p = va by omega, updG_at]
    · rw [updG_ne _ _ e2, updG_ne _ _ (by omega)]
      exact hg p j hp h3
  · rw [updG_ne _ _ e, updG_ne _ _ (by omega)]
    exact hg q j hq h3
theorem act_mid {k : Nat} {G : Nat → Gs} {g : Nat → Nat} {hv : Nat → Nat → Nat} {D : Nat} (hk5 : k ≤ 5) (h : ActTo k G hv D) (hg : ∀ q j, q < 2 → j < 3 → g (1073741824 + 8 * j + 4096 * q) = hv q j) {p r jj va : Nat} (hp : p < 2) (hr : r < k) (hj : jj < 3) (hva : va = 1073741824 + 4096 * p + 8 * jj) {acc : Int} (hacc : acc = 1 ∨ acc = 2) :
    ((G p).st r).busy = false ∧ Sm ((G p).st r) ∧ SmG k (turnG (G p) r (wantF r ((G p).st r) acc) noB).1 (turnG (G p) r (wantF r ((G p).st r) acc) noB).2 ∧
    ∃ n G', Runs24 k n (turnG (G p) r (wantF r ((G p).st r) acc) noB).1 (turnG (G p) r (wantF r ((G p).st r) acc) noB).2 G' ∧ n ≤ D + 40 ∧ acc ≤ (G'.st r).right ∧
      Mid24 k (updG G p G') g hv p r jj va (D + 3) (hv p jj) ∧
      (acc = 2 → ∀ x, x < 18446744073709551616 → Mid24 k (updG G p ⟨G'.st, updG G'.ct r (putW (G'.ct r) (8 * jj) 8 x)⟩) (updG g va x) (updG hv p (updG (hv p) jj x)) p r jj va (D + 3) x) := by
  obtain ⟨p1, p2, p3, n, G', a1, a2, a3, a4, a5, a6, a7, a8⟩ := act_plan hk5 h hp hr hj hacc
  refine ⟨p1, p2, p3, n, G', a1, a2, a3, ⟨?_, ?_, ?_, ?_, ?_, ?_, hg⟩, fun e x hx => ⟨?_, ?_, ?_, ?_, ?_, ?_, hg_put hg hva hp hj x⟩⟩
  · rw [updG_at]; omega
  · rw [updG_at]; exact a4
  · rw [updG_at]; exact a5
  · rw [← hg p jj hp hj]; congr 1; omega
  · rw [updG_at]
    have := a6 G'.ct
    have e : (⟨G'.st, G'.ct⟩ : Gs) = G' := rfl
    rw [e] at this
    rw [this]
  · rw [updG_updG, updG_at]
    have := a6 G'.ct
    have e : (⟨G'.st, G'.ct⟩ : Gs) = G' := rfl
    rw [e] at this
    rw [this]
    exact a7
  · rw [updG_at]; show 1 ≤ (G'.st r).right; omega
  · rw [updG_at]; exact a4
  · rw [updG_at]
    show getW (updG G'.ct r (putW (G'.ct r) (8 * jj) 8 x) r) (8 * jj) 8 = x
    rw [updG_at, getW_put]
    exact Nat.mod_eq_of_lt hx
  · exact updG_at _ _ _
  · rw [updG_at]
    show (turnG ⟨G'.st, updG G'.ct r (putW (G'.ct r) (8 * jj) 8 x)⟩ r (doneF r (G'.st r)) noB).2 = []
    rw [a6]
  · rw [updG_updG, updG_at]
    show ActTo k (updG G p (turnG ⟨G'.st, updG G'.ct r (putW (G'.ct r) (8 * jj) 8 x)⟩ r (doneF r (G'.st r)) noB).1) _ _
    rw [a6]
    exact a8 e x hx
end Go.Proofs.YtdjaeoeejcmhdaaGreatDoor
