/- Straight programs: what a core makes of them; constants and moves. Plain, no program. No condition. Programs with loops: what a core makes of Times, While and If over pieces that reckon. Plain, no program. No condition. -/
import Derived.Test.YthceikgkaellkaaGreatHn
import Derived.Test.YthceikgkaellkaaGreatHq
set_option linter.unusedVariables false
set_option linter.unusedSimpArgs false
namespace Go.Proofs.YthceikgkaellkaaGreat
open Go.RowKit Go.RR
/-- An instruction that reckons and goes on. -/
def strI (i : In) : Bool := decide (1 ≤ i.op) && decide (i.op ≤ 9)
theorem strI_kd {i : In} (h : strI i = true) : kd i.op ≠ .L ∧ kd i.op ≠ .S ∧ kd i.op ≠ .A ∧ kd i.op ≠ .B ∧ kd i.op ≠ .J ∧ kd i.op ≠ .N := by
  unfold strI at h
  simp only [Bool.and_eq_true, decide_eq_true_eq] at h
  have hk : i.op = 1 ∨ i.op = 2 ∨ i.op = 3 ∨ i.op = 4 ∨ i.op = 5 ∨ i.op = 6 ∨ i.op = 7 ∨ i.op = 8 ∨ i.op = 9 := by omega
  rcases hk with e | e | e | e | e | e | e | e | e <;> (rw [e]; decide)
theorem strI_pure {i : In} (h : strI i = true) : pureI i = true := by
  obtain ⟨h1, h2, h3, -⟩ := strI_kd h
  unfold strI at h
  simp only [Bool.and_eq_true, decide_eq_true_eq] at h
  unfold pureI
  rw [decide_eq_true h1, decide_eq_true h2, decide_eq_true h3, decide_eq_false (by omega : ¬ 10 ≤ i.op)]
  rfl
theorem core_str {i : In} (h : strI i = true) (c : Cor) : coreF c i = { (c.set i.rd (reckonF nilCx i (c.r i.rs.toNat) (c.r i.rt.toNat))) with pc := (c.pc + 4) % 18446744073709551616 } := by
  obtain ⟨h1, h2, h3, h4, h5, h6⟩ := strI_kd h
  unfold coreF
  rw [if_neg (fun e => e.elim h4 h5), if_neg (fun e => h6 e.1), if_neg h6]
end Go.Proofs.YthceikgkaellkaaGreat
set_option linter.unusedVariables false
set_option linter.unusedSimpArgs false
namespace Go.Proofs.YthceikgkaellkaaGreat
open Go.RowKit Go.RR
/-- A core at the k-th instruction. -/
def kC (r : Nat → Nat) (k : Nat) : Cor := ⟨r, 65536 + 4 * k, 0, ⟨0, 0, 0⟩⟩
def putR (r : Nat → Nat) (n v : Nat) : Nat → Nat := fun k => if k = n then v else r k
theorem atP_k (q : List In) (k : Nat) : atP q (65536 + 4 * k) = q[k]? := by
  unfold atP
  rw [if_pos ⟨by omega, by omega⟩, show (65536 + 4 * k - 65536) / 4 = k by omega]
theorem runC_go {q : List In} {n : Nat} {c c' : Cor} {i : In} (ha : atP q c.pc = some i) (hp : pureI i = true) (hc : coreF c i = c') (h0 : c'.run = 0) : runC q (n + 1) c = runC q n c' := by
  show (match atP q c.pc with
      | none => none
      | some i => if pureI i = true then (if (coreF c i).run = 0 then runC q n (coreF c i) else some (coreF c i)) else none) = _
  rw [ha]
  dsimp only
  rw [if_pos hp, hc, if_pos h0]
theorem go_halt {q : List In} {n k : Nat} {r : Nat → Nat} (ha : q[k]? = some haltI) : runC q (n + 1) (kC r k) = some { (kC r k) with run := 1 } := by
  show (match atP q (kC r k).pc with
      | none => none
      | some i => if pureI i = true then (if (coreF (kC r k) i).run = 0 then runC q n (coreF (kC r k) i) else some (coreF (kC r k) i)) else none) = _
  rw [show atP q (kC r k).pc = some haltI from (atP_k q k).trans ha]
  dsimp only
  rw [if_pos (by decide)]
  have eh : coreF (kC r k) haltI = { (kC r k) with run := 1 } := rfl
  rw [eh, if_neg (by show ¬ (1 : Int) = 0; decide)]
theorem set_kC {r : Nat → Nat} {p rd : Nat} (h1 : 1 ≤ rd) (h2 : rd ≤ 15) (v : Nat) (t : Trp) : (Cor.mk r p 0 t).set rd v = ⟨putR r rd v, p, 0, t⟩ := by
  unfold Cor.set
  rw [if_pos ⟨by omega, by omega, by omega⟩]
  unfold putR
  congr 1
  funext k
  by_cases h : k = rd
  · rw [if_pos (by omega), if_pos h]
  · rw [if_neg (by omega), if_neg h]
/-- An instruction that reckons. -/
theorem go_str {q : List In} {n k : Nat} {r : Nat → Nat} {op : Int} {rd : Nat} {rs rt im : Int} (ha : q[k]? = some ⟨op, rd, rs, rt, im⟩) (hs : strI ⟨op, rd, rs, rt, im⟩ = true) (h1 : 1 ≤ rd) (h2 : rd ≤ 15) (hk : k ≤ 100000) (v : Nat) (hv : reckonF nilCx ⟨op, rd, rs, rt, im⟩ (r rs.toNat) (r rt.toNat) = v) :
    runC q (n + 1) (kC r k) = runC q n (kC (putR r rd v) (k + 1)) := by
  rw [← hv]
  refine runC_go ((atP_k q k).trans ha) (strI_pure hs) ?_ rfl
  rw [core_str hs]
  unfold kC
  rw [set_kC h1 h2]
  show Cor.mk _ ((65536 + 4 * k + 4) % 18446744073709551616) 0 _ = _
  rw [show (65536 + 4 * k + 4) % 18446744073709551616 = 65536 + 4 * (k + 1) by omega]
/-- A branch: to k + im, or on. -/
theorem go_br {q : List In} {n k j : Nat} {r : Nat → Nat} {op rs rt im : Int} (ha : q[k]? = some ⟨op, 0, rs, rt, im⟩) (ho : op = 15 ∨ op = 16 ∨ op = 17) (hj : j = (if takenB op (r rs.toNat) (r rt.toNat) then ((k : Int) + im).toNat else k + 1)) (h0 : 0 ≤ (k : Int) + im) (h1 : (k : Int) + im ≤ 100000) (hk : k ≤ 100000) :
    runC q (n + 1) (kC r k) = runC q n (kC r j) := by
  have hkd : kd op = .B := by rcases ho with rfl | rfl | rfl <;> decide
  have h18 : op ≠ 18 := by rcases ho with rfl | rfl | rfl <;> decide
  have hpu : pureI ⟨op, 0, rs, rt, im⟩ = true := by
    unfold pureI
    dsimp only
    rw [hkd]
    have : decide (op ≤ 14) = false := decide_eq_false (by omega)
    rw [this]
    simp
  refine runC_go ((atP_k q k).trans ha) hpu ?_ rfl
  unfold coreF
  rw [if_pos (.inl hkd)]
  unfold jumpF
  dsimp only
  rw [if_neg h18, hj]
  unfold kC
  dsimp only
  congr 1
  split
  · unfold uof
    omega
  · omega
/-- A jump that keeps no register. -/
theorem go_jal {q : List In} {n k j : Nat} {r : Nat → Nat} {im : Int} (ha : q[k]? = some ⟨18, 0, 0, 0, im⟩) (hj : (j : Int) = (k : Int) + im) (h1 : j ≤ 100000) (hk : k ≤ 100000) :
    runC q (n + 1) (kC r k) = runC q n (kC r j) := by
  have hkd : kd 18 = .J := by decide
  refine runC_go ((atP_k q k).trans ha) (by unfold pureI; dsimp only; rw [hkd]; rfl) ?_ rfl
  unfold coreF
  rw [if_pos (.inr hkd)]
  unfold jumpF
  dsimp only
  rw [if_pos rfl]
  unfold Cor.set
  rw [if_neg (by omega)]
  unfold kC
  dsimp only
  rw [show takenB 18 (r (0 : Int).toNat) (r (0 : Int).toNat) = true from rfl, if_pos rfl]
  congr 1
  unfold uof
  omega
theorem sof_small {v : Nat} (h : v < 9223372036854775808) : sof v = v := by unfold sof; rw [if_pos h]
theorem uof_one : uof 1 = 1 := by decide
theorem uof_neg : uof (-1) = 18446744073709551615 := by decide

/-- Times over a piece that adds one. -/
def addP : List In := [⟨2, 3, 3, 0, 1⟩]
def timesQ (k : Int) : List In := [⟨1, 2, 0, 0, k⟩, ⟨2, 3, 3, 0, 1⟩, ⟨2, 2, 2, 0, -1⟩, ⟨16, 0, 2, 0, -2⟩]
theorem timesQ_eq {k : Nat} (h1 : 1 ≤ k) (h2 : k < 20) : timesF 2 k addP = timesQ k := by
  have h : ∀ k : Fin 20, 1 ≤ k.val → timesF 2 (k.val : Int) addP = timesQ (k.val : Int) := by decide +kernel
  exact h ⟨k, h2⟩ h1
theorem timesQ_right {k : Nat} (h2 : k < 20) : ∀ i ∈ timesQ k, rightB i = true := by
  have h : ∀ k : Fin 20, ∀ i ∈ timesQ (k.val : Int), rightB i = true := by decide +kernel
  exact h ⟨k, h2⟩
theorem reck1 (rd rs rt im : Int) (a b : Nat) : reckonF nilCx ⟨1, rd, rs, rt, im⟩ a b = uof im := rfl
theorem reck2 (rd rs rt im : Int) (a b : Nat) : reckonF nilCx ⟨2, rd, rs, rt, im⟩ a b = (a + uof im) % 18446744073709551616 := rfl
theorem reck_one {rd rs : Int} {a b : Nat} (h : a < 1000) : reckonF nilCx ⟨2, rd, rs, 0, 1⟩ a b = a + 1 := by
  rw [reck2, uof_one]
  omega
theorem reck_dec {rd rs : Int} {a c b : Nat} (h : c < 1000) (ha : a = c + 1) : reckonF nilCx ⟨2, rd, rs, 0, -1⟩ a b = c := by
  rw [reck2, uof_neg, ha]
  omega
theorem times_round (K : Int) (n m : Nat) (r : Nat → Nat) (r0 : r 0 = 0) (r2 : r 2 = m + 1) (hm : m < 1000) (h3 : r 3 < 1000) :
    ∃ r', runC (timesQ K ++ [haltI]) (n + 3) (kC r 1) = runC (timesQ K ++ [haltI]) n (kC r' (if m = 0 then 4 else 1)) ∧ r' 0 = 0 ∧ r' 2 = m ∧ r' 3 = r 3 + 1 := by
  refine ⟨putR (putR r 3 (r 3 + 1)) 2 m, ?_, r0, rfl, rfl⟩
  have s1 := go_str (q := timesQ K ++ [haltI]) (n := n + 2) (k := 1) (r := r) (op := 2) (rd := 3) (rs := 3) (rt := 0) (im := 1) rfl rfl (by omega) (by omega) (by omega) (r 3 + 1) (reck_one h3)
  have s2 := go_str (q := timesQ K ++ [haltI]) (n := n + 1) (k := 1 + 1) (r := putR r 3 (r 3 + 1)) (op := 2) (rd := 2) (rs := 2) (rt := 0) (im := -1) rfl rfl (by omega) (by omega) (by omega) m (reck_dec hm r2)
  have s3 := go_br (q := timesQ K ++ [haltI]) (n := n) (k := 1 + 1 + 1) (j := if m = 0 then 4 else 1) (r := putR (putR r 3 (r 3 + 1)) 2 m) (op := 16) (rs := 2) (rt := 0) (im := -2) rfl (.inr (.inl rfl)) (by
    have e1 : takenB 16 (putR (putR r 3 (r 3 + 1)) 2 m (2 : Int).toNat) (putR (putR r 3 (r 3 + 1)) 2 m (0 : Int).toNat) = decide (m ≠ r 0) := rfl
    rw [e1, r0]
    cases m with
    | zero => rfl
    | succ m => rfl) (by omega) (by omega) (by omega)
  exact s1.trans (s2.trans s3)
theorem times_loop (K : Int) (e : Nat) : ∀ (m : Nat) (r : Nat → Nat), r 0 = 0 → r 2 = m + 1 → m + r 3 < 900 →
    ∃ r', runC (timesQ K ++ [haltI]) (3 * (m + 1) + (e + 1)) (kC r 1) = some { (kC r' 4) with run := 1 } ∧ r' 2 = 0 ∧ r' 3 = r 3 + (m + 1) := by
  intro m
  induction m with
  | zero =>
    intro r r0 r2 hm
    obtain ⟨r', h, h0, h2, h3⟩ := times_round K (e + 1) 0 r r0 r2 (by omega) (by omega)
    refine ⟨r', ?_, h2, h3⟩
    rw [show 3 * (0 + 1) + (e + 1) = e + 1 + 3 by omega, h, if_pos rfl]
    exact go_halt rfl
  | succ m ih =>
    intro r r0 r2 hm
    obtain ⟨r1, h, h0, h2, h3⟩ := times_round K (3 * (m + 1) + (e + 1)) (m + 1) r r0 r2 (by omega) (by omega)
    obtain ⟨r', a, b, c⟩ := ih r1 h0 h2 (by omega)
    refine ⟨r', ?_, b, by omega⟩
    rw [show 3 * (m + 1 + 1) + (e + 1) = 3 * (m + 1) + (e + 1) + 3 by omega, h, if_neg (by omega)]
    exact a
theorem regC_k (f : Nat → Nat) : regC f 16 = kC (fun k => if k = 0 then 0 else if k < 16 then f k else 0) 0 := rfl
/-- Times is run to its end: as often as it says. -/
theorem times_run {k : Nat} (h2 : k < 20) : ∃ c, runC (timesF 2 k addP ++ [haltI]) 200 (regC (fun _ => 0) 16) = some c ∧ c.run = 1 ∧ c.pc = 65536 + 4 * (timesF 2 k addP).length ∧ c.r 2 = 0 ∧ c.r 3 = k := by
  by_cases h1 : 1 ≤ k
  · rw [timesQ_eq h1 h2, regC_k]
    have s1 := go_str (q := timesQ k ++ [haltI]) (n := 199) (k := 0) (r := fun k => if k = 0 then 0 else if k < 16 then 0 else 0) (op := 1) (rd := 2) (rs := 0) (rt := 0) (im := k) rfl rfl (by omega) (by omega) (by omega) k (by
      rw [reck1]
      unfold uof
      omega)
    obtain ⟨m, rfl⟩ : ∃ m, k = m + 1 := ⟨k - 1, by omega⟩
    obtain ⟨r', a, b, c⟩ := times_loop ((m + 1 : Nat) : Int) (199 - 3 * (m + 1) - 1) m (putR (fun k => if k = 0 then 0 else if k < 16 then 0 else 0) 2 (m + 1)) rfl rfl (by show m + 0 < 900; omega)
    rw [show 3 * (m + 1) + (199 - 3 * (m + 1) - 1 + 1) = 199 by omega] at a
    refine ⟨_, s1.trans a, rfl, rfl, b, ?_⟩
    show r' 3 = m + 1
    rw [c]
    show 0 + (m + 1) = m + 1
    omega
  · have e : k = 0 := by omega
    subst e
    have e1 : timesF 2 ((0 : Nat) : Int) addP = [] := by decide +kernel
    rw [e1, regC_k]
    exact ⟨_, go_halt (n := 199) rfl, rfl, rfl, rfl, rfl⟩
theorem times_right {k : Nat} (h2 : k < 20) : ∀ i ∈ timesF 2 k addP, rightB i = true := by
  by_cases h1 : 1 ≤ k
  · rw [timesQ_eq h1 h2]; exact timesQ_right h2
  · have e : k = 0 := by omega
    subst e
    have e1 : timesF 2 ((0 : Nat) : Int) addP = [] := by decide +kernel
    rw [e1]
    exact fun i h => by cases h
theorem times_len {k : Nat} (h2 : k < 20) : (timesF 2 k addP).length ≤ 4 := by
  by_cases h1 : 1 ≤ k
  · rw [timesQ_eq h1 h2]; exact Nat.le_refl _
  · have e : k = 0 := by omega
    subst e
    have e1 : timesF 2 ((0 : Nat) : Int) addP = [] := by decide +kernel
    rw [e1]
    exact Nat.zero_le _

/-- While over a piece that adds one to two registers. -/
def twoP : List In := [⟨2, 3, 3, 0, 1⟩, ⟨2, 4, 4, 0, 1⟩]
def whileQ : List In := [⟨17, 0, 4, 5, 2⟩, ⟨18, 0, 0, 0, 4⟩, ⟨2, 3, 3, 0, 1⟩, ⟨2, 4, 4, 0, 1⟩, ⟨18, 0, 0, 0, -4⟩]
theorem whileQ_eq : whileF 17 4 5 twoP = whileQ := by decide +kernel
theorem whileQ_right : ∀ i ∈ whileQ, rightB i = true := by decide +kernel
theorem while_end (e : Nat) (r : Nat → Nat) (h : ¬ r 4 < r 5) (h4 : r 4 < 1000) (h5 : r 5 < 1000) : runC (whileQ ++ [haltI]) (e + 3) (kC r 0) = some { (kC r 5) with run := 1 } := by
  have s1 := go_br (q := whileQ ++ [haltI]) (n := e + 2) (k := 0) (j := 1) (r := r) (op := 17) (rs := 4) (rt := 5) (im := 2) rfl (.inr (.inr rfl)) (by
    have : takenB 17 (r (4 : Int).toNat) (r (5 : Int).toNat) = decide (sof (r 4) < sof (r 5)) := rfl
    rw [this, sof_small (by omega), sof_small (by omega), decide_eq_false (by omega)]
    rfl) (by omega) (by omega) (by omega)
  have s2 := go_jal (q := whileQ ++ [haltI]) (n := e + 1) (k := 1) (j := 5) (r := r) (im := 4) rfl (by omega) (by omega) (by omega)
  exact s1.trans (s2.trans (go_halt rfl))
theorem while_round (n : Nat) (r : Nat → Nat) (h : r 4 < r 5) (h5 : r 5 < 1000) (h3 : r 3 < 1000) :
    ∃ r', runC (whileQ ++ [haltI]) (n + 4) (kC r 0) = runC (whileQ ++ [haltI]) n (kC r' 0) ∧ r' 3 = r 3 + 1 ∧ r' 4 = r 4 + 1 ∧ r' 5 = r 5 := by
  refine ⟨putR (putR r 3 (r 3 + 1)) 4 (r 4 + 1), ?_, rfl, rfl, rfl⟩
  have s1 := go_br (q := whileQ ++ [haltI]) (n := n + 3) (k := 0) (j := 2) (r := r) (op := 17) (rs := 4) (rt := 5) (im := 2) rfl (.inr (.inr rfl)) (by
    have : takenB 17 (r (4 : Int).toNat) (r (5 : Int).toNat) = decide (sof (r 4) < sof (r 5)) := rfl
    rw [this, sof_small (by omega), sof_small (by omega), decide_eq_true (by omega)]
    rfl) (by omega) (by omega) (by omega)
  have s2 := go_str (q := whileQ ++ [haltI]) (n := n + 2) (k := 2) (r := r) (op := 2) (rd := 3) (rs := 3) (rt := 0) (im := 1) rfl rfl (by omega) (by omega) (by omega) (r 3 + 1) (reck_one h3)
  have s3 := go_str (q := whileQ ++ [haltI]) (n := n + 1) (k := 2 + 1) (r := putR r 3 (r 3 + 1)) (op := 2) (rd := 4) (rs := 4) (rt := 0) (im := 1) rfl rfl (by omega) (by omega) (by omega) (r 4 + 1) (reck_one (show r 4 < 1000 by omega))
  have s4 := go_jal (q := whileQ ++ [haltI]) (n := n) (k := 2 + 1 + 1) (j := 0) (r := putR (putR r 3 (r 3 + 1)) 4 (r 4 + 1)) (im := -4) rfl (by omega) (by omega) (by omega)
  exact s1.trans (s2.trans (s3.trans s4))
theorem while_loop (e : Nat) : ∀ (m : Nat) (r : Nat → Nat), r 5 - r 4 = m → r 4 < 900 → r 5 < 900 → r 3 + m < 900 →
    ∃ r', runC (whileQ ++ [haltI]) (4 * m + (e + 3)) (kC r 0) = some { (kC r' 5) with run := 1 } ∧ r' 3 = r 3 + m ∧ r' 4 = r 4 + m := by
  intro m
  induction m with
  | zero =>
    intro r hm h4 h5 h3
    rw [Nat.mul_zero, Nat.zero_add]
    exact ⟨r, while_end e r (by omega) (by omega) (by omega), rfl, rfl⟩
  | succ m ih =>
    intro r hm h4 h5 h3
    obtain ⟨r1, h, a3, a4, a5⟩ := while_round (4 * m + (e + 3)) r (by omega) (by omega) (by omega)
    obtain ⟨r', a, b, c⟩ := ih r1 (by omega) (by omega) (by omega) (by omega)
    refine ⟨r', ?_, by omega, by omega⟩
    rw [show 4 * (m + 1) + (e + 3) = 4 * m + (e + 3) + 4 by omega, h]
    exact a
/-- The registers ahead of the run: two of them are laid. -/
def topR (a b : Nat) (k : Nat) : Nat := if k = 4 then a else if k = 5 then b else 0
theorem topR_lt {a b : Nat} (ha : a < 40) (hb : b < 40) (k : Nat) : topR a b k < 18446744073709551616 := by
  unfold topR
  split
  · omega
  · split <;> omega
theorem while_run {a b : Nat} (ha : a < 40) (hb : b < 40) : ∃ c, runC (whileQ ++ [haltI]) 400 (regC (topR a b) 16) = some c ∧ c.run = 1 ∧ c.pc = 65536 + 4 * whileQ.length ∧ c.r 3 = b - a ∧ c.r 4 = max a b := by
  rw [regC_k]
  obtain ⟨r', h, h3, h4⟩ := while_loop (400 - 4 * (b - a) - 3) (b - a) (fun k => if k = 0 then 0 else if k < 16 then topR a b k else 0) rfl (show a < 900 by omega) (show b < 900 by omega) (by show 0 + (b - a) < 900; omega)
  rw [show 4 * (b - a) + (400 - 4 * (b - a) - 3 + 3) = 400 by omega] at h
  refine ⟨_, h, rfl, rfl, ?_, ?_⟩
  · show r' 3 = _
    rw [h3]
    show 0 + (b - a) = _
    omega
  · show r' 4 = _
    rw [h4]
    show a + (b - a) = _
    omega

/-- If over two constants. -/
def conP (v : Int) : List In := [⟨1, 6, 0, 0, v⟩]
def ifQ (o : Int) : List In := [⟨o, 0, 4, 5, 3⟩, ⟨1, 6, 0, 0, 2⟩, ⟨18, 0, 0, 0, 2⟩, ⟨1, 6, 0, 0, 1⟩]
theorem ifQ_eq {o : Int} (h : o = 15 ∨ o = 17) : ifF o 4 5 (conP 1) (conP 2) = ifQ o := by
  rcases h with rfl | rfl <;> decide +kernel
theorem ifQ_right {o : Int} (h : o = 15 ∨ o = 17) : ∀ i ∈ ifQ o, rightB i = true := by
  rcases h with rfl | rfl <;> decide +kernel
theorem con_eq : constF 6 1 = conP 1 ∧ constF 6 2 = conP 2 := by decide +kernel
theorem if_run {o : Int} (ho : o = 15 ∨ o = 17) {a b : Nat} (ha : a < 40) (hb : b < 40) : ∃ c, runC (ifQ o ++ [haltI]) 50 (regC (topR a b) 16) = some c ∧ c.run = 1 ∧ c.pc = 65536 + 4 * (ifQ o).length ∧ c.r 6 = if (if o = 15 then a = b else a < b) then 1 else 2 := by
  rw [regC_k]
  have ht : takenB o a b = decide (if o = 15 then a = b else a < b) := by
    rcases ho with rfl | rfl
    · rfl
    · show decide (sof a < sof b) = decide (a < b)
      rw [sof_small (by omega), sof_small (by omega)]
      rw [Bool.eq_iff_iff]; simp
  have s1 := fun j hj => go_br (q := ifQ o ++ [haltI]) (n := 49) (k := 0) (j := j) (r := fun k => if k = 0 then 0 else if k < 16 then topR a b k else 0) (op := o) (rs := 4) (rt := 5) (im := 3) rfl (by omega) (show j = if takenB o a b then _ else _ from hj) (by omega) (by omega) (by omega)
  rw [ht] at s1
  by_cases h : (if o = 15 then a = b else a < b)
  · rw [decide_eq_true h] at s1
    have s2 := go_str (q := ifQ o ++ [haltI]) (n := 48) (k := 3) (r := fun k => if k = 0 then 0 else if k < 16 then topR a b k else 0) (op := 1) (rd := 6) (rs := 0) (rt := 0) (im := 1) rfl rfl (by omega) (by omega) (by omega) 1 rfl
    refine ⟨_, (s1 3 rfl).trans (s2.trans (go_halt rfl)), rfl, rfl, ?_⟩
    rw [if_pos h]
    rfl
  · rw [decide_eq_false h] at s1
    have s2 := go_str (q := ifQ o ++ [haltI]) (n := 48) (k := 1) (r := fun k => if k = 0 then 0 else if k < 16 then topR a b k else 0) (op := 1) (rd := 6) (rs := 0) (rt := 0) (im := 2) rfl rfl (by omega) (by omega) (by omega) 2 rfl
    refine ⟨_, (s1 1 rfl).trans (s2.trans ((go_jal (q := ifQ o ++ [haltI]) (n := 47) (k := 1 + 1) (j := 4) (im := 2) rfl (by omega) (by omega) (by omega)).trans (go_halt rfl))), rfl, rfl, ?_⟩
    rw [if_neg h]
    rfl
end Go.Proofs.YthceikgkaellkaaGreat
