/- Straight programs: what a core makes of them; constants and moves. Plain, no program. No condition. The piece of a constant and the piece of a move: right, run to their ends, and the registers they use. Plain, no program. No condition. -/
import Derived.Test.YthceikgkaellkaaGreatHn
import Derived.Test.YthceikgkaellkaaGreatHq
import Derived.Test.YthceikgkaellkaaGreatHr
set_option linter.unusedVariables false
set_option linter.unusedSimpArgs false
namespace Go.Proofs.YthceikgkaellkaaGreat
open Go.RowKit Go.RR
/-- An instruction that reckons and goes on. -/
def strI (i : In) : Bool := decide (1 ≤ i.op) && decide (i.op ≤ 9)
theorem strI_kd {i : In} (h : strI i = true) : kd i.op ≠ .L ∧ kd i.op ≠ .S ∧ kd i.op ≠ .A ∧ kd i.op ≠ .B ∧ kd i.op ≠ .J ∧ kd i.op ≠ .N := by
  unfold strI at h
  simp only [Bool.and_eq_true, decide_eq_true_eq] at h
  have hk : i.op = 1 ∨ i.op = 2 ∨ i.op = 3 ∨ i.op = 4 ∨ i.op = 5 ∨ i.op = 6 ∨ i.op = 7 ∨ i.op = 8 ∨ i.op = 9 := by omega
  rcases hk with e | e | e | e | e | e | e | e | e <;> (rw [e]; decide)
theorem strI_pure {i : In} (h : strI i = true) : pureI i = true := by
  obtain ⟨h1, h2, h3, -⟩ := strI_kd h
  unfold strI at h
  simp only [Bool.and_eq_true, decide_eq_true_eq] at h
  unfold pureI
  rw [decide_eq_true h1, decide_eq_true h2, decide_eq_true h3, decide_eq_false (by omega : ¬ 10 ≤ i.op)]
  rfl
theorem core_str {i : In} (h : strI i = true) (c : Cor) : coreF c i = { (c.set i.rd (reckonF nilCx i (c.r i.rs.toNat) (c.r i.rt.toNat))) with pc := (c.pc + 4) % 18446744073709551616 } := by
  obtain ⟨h1, h2, h3, h4, h5, h6⟩ := strI_kd h
  unfold coreF
  rw [if_neg (fun e => e.elim h4 h5), if_neg (fun e => h6 e.1), if_neg h6]
theorem set_run (c : Cor) (n : Int) (v : Nat) : (c.set n v).run = c.run := by unfold Cor.set; split <;> rfl
theorem core_str_run {i : In} (h : strI i = true) (c : Cor) : (coreF c i).run = c.run := by rw [core_str h]; exact set_run c _ _
def execL : List In → Cor → Cor
  | [], c => c
  | i :: l, c => execL l (coreF c i)
theorem execL_app (a b : List In) : ∀ c, execL (a ++ b) c = execL b (execL a c) := by
  induction a with
  | nil => exact fun c => rfl
  | cons i a ih => exact fun c => ih _
theorem execL_str (l : List In) : ∀ c : Cor, (∀ i ∈ l, strI i = true) → c.pc + 4 * l.length < 18446744073709551616 → (execL l c).run = c.run ∧ (execL l c).pc = c.pc + 4 * l.length := by
  induction l with
  | nil => exact fun c _ _ => ⟨rfl, rfl⟩
  | cons i l ih =>
    intro c hs hp
    rw [List.length_cons] at hp
    have hi := hs i List.mem_cons_self
    have e1 : (coreF c i).pc = c.pc + 4 := by
      rw [core_str hi]
      exact Nat.mod_eq_of_lt (by omega)
    obtain ⟨a1, a2⟩ := ih (coreF c i) (fun j hj => hs j (List.mem_cons_of_mem _ hj)) (by rw [e1]; omega)
    refine ⟨a1.trans (core_str_run hi c), ?_⟩
    show (execL l (coreF c i)).pc = _
    rw [a2, e1, List.length_cons]
    omega
/-- A straight piece in a program is gone through. -/
theorem run_straight (q post : List In) : ∀ (l pre : List In) (c : Cor) (n : Nat), q = pre ++ l ++ post → (∀ i ∈ l, strI i = true) → c.pc = 65536 + 4 * pre.length → c.run = 0 → q.length ≤ 100000 → runC q (l.length + n) c = runC q n (execL l c) := by
  intro l
  induction l with
  | nil => intro pre c n _ _ _ _ _; rw [List.length_nil, Nat.zero_add]; rfl
  | cons i l ih =>
    intro pre c n hq hs hp hr hl
    have hi := hs i List.mem_cons_self
    have ha : atP q c.pc = some i := by
      unfold atP
      rw [hp, if_pos ⟨by omega, by omega⟩, show (65536 + 4 * pre.length - 65536) / 4 = pre.length by omega, hq, List.append_assoc, List.getElem?_append_right (Nat.le_refl _), Nat.sub_self]
      rfl
    have hlen : pre.length < 100000 := by
      rw [hq] at hl
      simp only [List.length_append, List.length_cons] at hl
      omega
    rw [List.length_cons, show l.length + 1 + n = (l.length + n) + 1 by omega]
    show (match atP q c.pc with
      | none => none
      | some i => if pureI i = true then (if (coreF c i).run = 0 then runC q (l.length + n) (coreF c i) else some (coreF c i)) else none) = _
    rw [ha]
    dsimp only
    rw [if_pos (strI_pure hi), if_pos ((core_str_run hi c).trans hr)]
    refine ih (pre ++ [i]) (coreF c i) n (by rw [hq]; simp) (fun j hj => hs j (List.mem_cons_of_mem _ hj)) ?_ ((core_str_run hi c).trans hr) hl
    rw [core_str hi]
    show (c.pc + 4) % _ = _
    rw [hp, List.length_append]
    show _ = 65536 + 4 * (pre.length + 1)
    omega
/-- A straight piece is run to its end. -/
theorem run_end {p : List In} (hs : ∀ i ∈ p, strI i = true) (hl : p.length ≤ 999) (f : Nat → Nat) (m : Nat) (hm : p.length + 1 ≤ m) :
    runC (p ++ [haltI]) m (regC f 16) = some { (execL p (regC f 16)) with run := 1 } ∧ (execL p (regC f 16)).pc = 65536 + 4 * p.length := by
  obtain ⟨k, hk⟩ : ∃ k, m = p.length + (k + 1) := ⟨m - p.length - 1, by omega⟩
  have hp : (regC f 16).pc + 4 * p.length < 18446744073709551616 := by show 65536 + 4 * p.length < _; omega
  obtain ⟨e1, e2⟩ := execL_str p (regC f 16) hs hp
  have e2' : (execL p (regC f 16)).pc = 65536 + 4 * p.length := e2
  refine ⟨?_, e2'⟩
  rw [hk, run_straight (p ++ [haltI]) [haltI] p [] (regC f 16) (k + 1) rfl hs rfl rfl (by rw [List.length_append]; show p.length + 1 ≤ _; omega)]
  have ha : atP (p ++ [haltI]) (execL p (regC f 16)).pc = some haltI := by
    unfold atP
    rw [e2', if_pos ⟨by omega, by omega⟩, show (65536 + 4 * p.length - 65536) / 4 = p.length by omega, List.getElem?_append_right (Nat.le_refl _), Nat.sub_self]
    rfl
  show (match atP (p ++ [haltI]) (execL p (regC f 16)).pc with
      | none => none
      | some i => if pureI i = true then (if (coreF (execL p (regC f 16)) i).run = 0 then runC (p ++ [haltI]) k (coreF (execL p (regC f 16)) i) else some (coreF (execL p (regC f 16)) i)) else none) = _
  rw [ha]
  dsimp only
  rw [if_pos (by decide)]
  have eh : coreF (execL p (regC f 16)) haltI = { (execL p (regC f 16)) with run := 1 } := rfl
  rw [eh, if_neg (by show ¬ (1 : Int) = 0; decide)]
/-- What the piece of a constant does. -/
theorem const_str (rd : Int) : ∀ (f : Nat) (n : Int), ∀ i ∈ constG f rd n, strI i = true
  | 0, n, i, h => by
    rw [constG, List.mem_singleton] at h
    rw [h]; rfl
  | f + 1, n, i, h => by
    unfold constG at h
    split at h
    · rw [List.mem_singleton] at h; rw [h]; rfl
    · rcases List.mem_append.1 h with h | h
      · exact const_str rd f _ i h
      · rcases List.mem_cons.1 h with h | h
        · rw [h]; rfl
        · split at h
          · cases h
          · rw [List.mem_singleton] at h; rw [h]; rfl
theorem set_own {c : Cor} {rd : Nat} (h1 : 1 ≤ rd) (h2 : rd ≤ 15) (v k : Nat) : (c.set rd v).r k = if k = rd then v else c.r k := by
  unfold Cor.set
  rw [if_pos ⟨by omega, by omega, by omega⟩]
  show (if (k : Int) = rd then v else c.r k) = _
  by_cases h : k = rd
  · rw [if_pos (by omega), if_pos h]
  · rw [if_neg (by omega), if_neg h]
theorem const_exec {rd : Nat} (h1 : 1 ≤ rd) (h2 : rd ≤ 15) : ∀ (f : Nat) (n : Int) (c : Cor), ∀ k, (execL (constG f rd n) c).r k = if k = rd then uof n else c.r k
  | 0, n, c, k => by
    show (coreF c ⟨1, rd, 0, 0, n⟩).r k = _
    rw [core_str rfl]
    exact set_own h1 h2 _ k
  | f + 1, n, c, k => by
    unfold constG
    split
    · show (coreF c ⟨1, rd, 0, 0, n⟩).r k = _
      rw [core_str rfl]
      exact set_own h1 h2 _ k
    · rw [execL_app]
      have ih := const_exec h1 h2 f (n / 2048) c
      generalize execL (constG f rd (n / 2048)) c = c1 at *
      have hr1 := ih rd
      rw [if_pos rfl] at hr1
      have hs : ∀ k, (coreF c1 ⟨3, rd, rd, 0, 11⟩).r k = if k = rd then uof (n / 2048) * 2048 % 18446744073709551616 else c.r k := fun k => by
        rw [core_str rfl]
        refine (set_own h1 h2 _ k).trans ?_
        by_cases hk : k = rd
        · rw [if_pos hk, if_pos hk]
          show c1.r ((rd : Int).toNat) * 2 ^ (uof 11 % 64) % 18446744073709551616 = _
          rw [Int.toNat_natCast, hr1]
          rfl
        · rw [if_neg hk, if_neg hk, ih k, if_neg hk]
      split
      · rename_i hz
        show (coreF c1 ⟨3, rd, rd, 0, 11⟩).r k = _
        rw [hs k]
        by_cases hk : k = rd
        · rw [if_pos hk, if_pos hk]
          unfold uof
          omega
        · rw [if_neg hk, if_neg hk]
      · show (coreF (coreF c1 ⟨3, rd, rd, 0, 11⟩) ⟨2, rd, rd, 0, n % 2048⟩).r k = _
        generalize coreF c1 ⟨3, rd, rd, 0, 11⟩ = c2 at *
        rw [core_str rfl]
        refine (set_own h1 h2 _ k).trans ?_
        by_cases hk : k = rd
        · rw [if_pos hk, if_pos hk]
          show (c2.r ((rd : Int).toNat) + uof (n % 2048)) % 18446744073709551616 = _
          rw [Int.toNat_natCast, hs rd, if_pos rfl]
          unfold uof
          omega
        · rw [if_neg hk, if_neg hk, hs k, if_neg hk]
end Go.Proofs.YthceikgkaellkaaGreat
set_option linter.unusedVariables false
set_option linter.unusedSimpArgs false
namespace Go.Proofs.YthceikgkaellkaaGreat
open Go.RowKit Go.RR
theorem right_li {rd : Int} (h1 : 1 ≤ rd) (h2 : rd ≤ 15) {n : Int} (a : -2048 ≤ n) (b : n ≤ 2047) : rightB ⟨1, rd, 0, 0, n⟩ = true := by
  have hk : kd 1 = .I := by decide
  refine rightB_of (by show kd 1 ≠ .z; rw [hk]; decide) a b fun m hm => ?_
  rcases m with _ | _ | _ | _ | m
  · exact okr_of (fun _ => by show (kd 1).d = true; rw [hk]; rfl) (by show 0 ≤ rd; omega) h2
  · rfl
  · rfl
  · show (decide (n = 0) || (kd 1).i) = true
    rw [hk]; simp [Kd.i]
  · omega
theorem right_ri {op : Int} (ho : kd op = .RI) {rd rs : Int} (h1 : 1 ≤ rd) (h2 : rd ≤ 15) (h3 : 0 ≤ rs) (h4 : rs ≤ 15) {n : Int} (a : -2048 ≤ n) (b : n ≤ 2047) : rightB ⟨op, rd, rs, 0, n⟩ = true := by
  refine rightB_of (by show kd op ≠ .z; rw [ho]; decide) a b fun m hm => ?_
  rcases m with _ | _ | _ | _ | m
  · exact okr_of (fun _ => by show (kd op).d = true; rw [ho]; rfl) (by show 0 ≤ rd; omega) h2
  · exact okr_of (fun _ => by show (kd op).q = true; rw [ho]; rfl) h3 h4
  · rfl
  · show (decide (n = 0) || (kd op).i) = true
    rw [ho]; simp [Kd.i]
  · omega
set_option maxRecDepth 100000 in
theorem constG_right {rd : Int} (h1 : 1 ≤ rd) (h2 : rd ≤ 15) : ∀ (f : Nat) (n : Int), -((2048 : Int) ^ (f + 1)) ≤ n → n < (2048 : Int) ^ (f + 1) → ∀ i ∈ constG f rd n, rightB i = true
  | 0, n, a, b, i, h => by
    rw [constG, List.mem_singleton] at h
    rw [h]
    have e : (2048 : Int) ^ (0 + 1) = 2048 := by decide
    rw [e] at a b
    exact right_li h1 h2 a (by omega)
  | f + 1, n, a, b, i, h => by
    unfold constG at h
    split at h
    · rename_i e
      rw [List.mem_singleton] at h; rw [h]; exact right_li h1 h2 e.1 e.2
    · rcases List.mem_append.1 h with h | h
      · rw [Int.pow_succ] at a b
        generalize hp : (2048 : Int) ^ (f + 1) = p at a b
        refine constG_right h1 h2 f _ ?_ ?_ i h
        · rw [hp]; omega
        · rw [hp]; omega
      · rcases List.mem_cons.1 h with h | h
        · rw [h]; exact right_ri (by decide) h1 h2 (by omega) h2 (by omega) (by omega)
        · split at h
          · cases h
          · rw [List.mem_singleton] at h; rw [h]; exact right_ri (by decide) h1 h2 (by omega) h2 (by omega) (by omega)
theorem constF_right (rd : Int) {v : Int} (h0 : 0 ≤ v) (hv : v < U64) : ∀ i ∈ constF rd (sgn v), rightB i = true := by
  unfold constF
  split
  · rename_i h
    obtain ⟨h1, h2⟩ := ownB_in h
    obtain ⟨a, b, -⟩ := sgn_in h0 hv
    have e : (2048 : Int) ^ (6 + 1) = 151115727451828646838272 := by decide
    exact constG_right h1 h2 6 _ (by rw [e]; omega) (by rw [e]; omega)
  · exact fun i hi => by cases hi
theorem moveF_right (rd rs : Int) : ∀ i ∈ moveF rd rs, rightB i = true := by
  unfold moveF
  split
  · rename_i h
    rw [Bool.and_eq_true] at h
    obtain ⟨h1, h2⟩ := ownB_in h.1
    have h3 := h.2
    unfold regB at h3
    simp only [Bool.and_eq_true, decide_eq_true_eq] at h3
    intro i hi
    rw [List.mem_singleton] at hi; rw [hi]
    exact right_ri (by decide) h1 h2 (by omega) (by omega) (by omega) (by omega)
  · exact fun i hi => by cases hi
theorem moveF_str (rd rs : Int) : ∀ i ∈ moveF rd rs, strI i = true := by
  unfold moveF
  split
  · intro i hi
    rw [List.mem_singleton] at hi; rw [hi]; rfl
  · exact fun i hi => by cases hi
theorem constF_str (rd n : Int) : ∀ i ∈ constF rd n, strI i = true := by
  unfold constF
  split
  · exact const_str rd 6 n
  · exact fun i hi => by cases hi
theorem moveF_len (rd rs : Int) : (moveF rd rs).length ≤ 1 := by unfold moveF; split <;> simp
theorem moveF_one (rd rs : Int) : decide ((moveF rd rs).length = 1) = (ownB rd && regB rs) := by
  unfold moveF
  cases ownB rd && regB rs <;> rfl
theorem uof_sgn {v : Int} (h0 : 0 ≤ v) (hv : v < U64) : uof (sgn v) = v.toNat := by
  obtain ⟨-, -, c⟩ := sgn_in h0 hv
  unfold uof
  rw [← show U64 = 18446744073709551616 from rfl, ← c]
/-- The registers that the law lays. -/
def hund (k : Nat) : Nat := if k < 16 then 100 * k else 0
theorem hund_lt (k : Nat) : hund k < 18446744073709551616 := by unfold hund; split <;> omega
theorem hund_reg {k : Nat} (h : k < 16) : (regC hund 16).r k = hund k := by
  show (if k = 0 then 0 else if k < 16 then hund k else 0) = _
  by_cases h0 : k = 0
  · rw [if_pos h0, h0]; rfl
  · rw [if_neg h0, if_pos h]
theorem const_run {rd : Int} (hr : ownB rd = true) {v : Int} (h0 : 0 ≤ v) (hv : v < U64) :
    ∃ c', runC (constF rd (sgn v) ++ [haltI]) 30 (regC hund 16) = some c' ∧ c'.run = 1 ∧ c'.pc = 65536 + 4 * (constF rd (sgn v)).length ∧ ∀ k, k < 16 → c'.r k = if k = rd.toNat then v.toNat else hund k := by
  have hl := constF_len rd (sgn v)
  obtain ⟨e1, e2⟩ := run_end (constF_str rd (sgn v)) (by omega) hund 30 (by omega)
  refine ⟨_, e1, rfl, e2, fun k hk => ?_⟩
  show (execL (constF rd (sgn v)) (regC hund 16)).r k = _
  obtain ⟨h1, h2⟩ := ownB_in hr
  obtain ⟨r, rfl⟩ := Int.eq_ofNat_of_zero_le (by omega : 0 ≤ rd)
  unfold constF
  rw [if_pos hr, const_exec (by omega) (by omega) 6 (sgn v) (regC hund 16) k, uof_sgn h0 hv, hund_reg hk]
  rfl
theorem move_run (rd rs : Int) :
    ∃ c', runC (moveF rd rs ++ [haltI]) 5 (regC hund 16) = some c' ∧ c'.run = 1 ∧ c'.pc = 65536 + 4 * (moveF rd rs).length ∧ ((ownB rd && regB rs) = true → c'.r rd.toNat = hund rs.toNat) := by
  have hl := moveF_len rd rs
  obtain ⟨e1, e2⟩ := run_end (moveF_str rd rs) (by omega) hund 5 (by omega)
  refine ⟨_, e1, rfl, e2, fun h => ?_⟩
  show (execL (moveF rd rs) (regC hund 16)).r rd.toNat = _
  unfold moveF
  rw [if_pos h]
  rw [Bool.and_eq_true] at h
  obtain ⟨h1, h2⟩ := ownB_in h.1
  have h3 := h.2
  unfold regB at h3
  simp only [Bool.and_eq_true, decide_eq_true_eq] at h3
  obtain ⟨r, rfl⟩ := Int.eq_ofNat_of_zero_le (by omega : 0 ≤ rd)
  show (coreF (regC hund 16) ⟨2, r, rs, 0, 0⟩).r _ = _
  rw [core_str rfl]
  refine (set_own (by omega) (by omega) _ _).trans ?_
  rw [if_pos (by simp)]
  show ((regC hund 16).r rs.toNat + uof 0) % 18446744073709551616 = _
  rw [hund_reg (by omega)]
  exact Nat.mod_eq_of_lt (hund_lt _)
theorem orL_same {r : Int} : ∀ (l : List Int) (a : Nat), (∀ x ∈ l, x = r) → l ≠ [] → orL l a = a ||| bitR r
  | [], a, _, h => absurd rfl h
  | [x], a, h, _ => by
    rw [h x List.mem_cons_self]; rfl
  | x :: y :: l, a, h, _ => by
    have e := orL_same (y :: l) (a ||| bitR x) (fun z hz => h z (List.mem_cons_of_mem _ hz)) (by simp)
    show orL (y :: l) (a ||| bitR x) = _
    rw [e, h x List.mem_cons_self, Nat.or_assoc, Nat.or_self]
theorem constG_regs (rd : Int) : ∀ (f : Nat) (n : Int), (∀ x ∈ (constG f rd n).flatMap regsL, x = rd) ∧ (constG f rd n).flatMap regsL ≠ []
  | 0, n => by
    have e : regsL ⟨1, rd, 0, 0, n⟩ = [rd] := rfl
    rw [constG, List.flatMap_cons, e]
    simp
  | f + 1, n => by
    have e : regsL ⟨1, rd, 0, 0, n⟩ = [rd] := rfl
    have e3 : regsL ⟨3, rd, rd, 0, 11⟩ = [rd, rd] := rfl
    have e2 : regsL ⟨2, rd, rd, 0, n % 2048⟩ = [rd, rd] := rfl
    obtain ⟨a, b⟩ := constG_regs rd f (n / 2048)
    unfold constG
    split
    · rw [List.flatMap_cons, e]; simp
    · rw [List.flatMap_append, List.flatMap_cons, e3]
      refine ⟨fun x hx => ?_, fun h => b (List.append_eq_nil_iff.1 h).1⟩
      rcases List.mem_append.1 hx with hx | hx
      · exact a x hx
      · split at hx
        · simpa using hx
        · rw [List.flatMap_cons, e2] at hx
          simpa using hx
theorem const_uses {rd : Int} (hr : ownB rd = true) (n : Int) : usesF (constF rd n) = 2 ^ rd.toNat := by
  unfold usesF constF
  rw [if_pos hr]
  obtain ⟨a, b⟩ := constG_regs rd 6 n
  rw [orL_same _ 0 a b, Nat.zero_or]
  unfold bitR
  rw [if_pos hr]
theorem constF_nil (rd n : Int) : decide ((constF rd n).length = 0) = !(ownB rd) := by
  unfold constF
  cases h : ownB rd
  · rfl
  · have := (constG_len rd 6 n).1
    rw [if_pos rfl, decide_eq_false (by omega)]
    rfl
end Go.Proofs.YthceikgkaellkaaGreat
