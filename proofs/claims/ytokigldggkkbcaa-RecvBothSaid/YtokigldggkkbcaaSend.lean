/- The sender: what it looks like in memory; the small calls. -/
import Derived.Test.YtokigldggkkbcaaClone
import Derived.Test.YtokigldggkkbcaaKit2
set_option linter.unusedVariables false
namespace Go.Proofs.Ytokigldggkkbcaa
open Go.RowKit Go.RR

/-- A body under way. -/
structure Fl where
  seq : Int
  b : ByteArray
  due : Int
  wait : Int

def fcell (f : Fl) (v : Value) : List Value := [.int .u64 f.seq, v, .int .i64 f.due, .int .i64 f.wait]
def fcells : List Fl → List Value → List Value
  | f :: fl, v :: vs => fcell f v ++ fcells fl vs
  | _, _ => []
theorem fcells_len : ∀ (fl : List Fl) (vs : List Value), vs.length = fl.length → (fcells fl vs).length = fl.length * 4
  | [], _, _ => by simp [fcells]
  | f :: fl, [], h => by simp at h
  | f :: fl, v :: vs, h => by
    have := fcells_len fl vs (by simpa using h)
    simp only [fcells, fcell, List.length_append, List.length_cons, List.length_nil, this]; omega
theorem fcells_at : ∀ (fl : List Fl) (vs : List Value) (i : Nat) (f : Fl) (v : Value), fl[i]? = some f → vs[i]? = some v →
    (fcells fl vs)[i * 4]? = some (.int .u64 f.seq) ∧ (fcells fl vs)[i * 4 + 1]? = some v ∧ (fcells fl vs)[i * 4 + 2]? = some (.int .i64 f.due) ∧ (fcells fl vs)[i * 4 + 3]? = some (.int .i64 f.wait)
  | [], _, i, f, v, h, _ => by simp at h
  | g :: fl, [], i, f, v, _, h => by simp at h
  | g :: fl, u :: vs, 0, f, v, h1, h2 => by simp at h1 h2; subst h1 h2; exact ⟨rfl, rfl, rfl, rfl⟩
  | g :: fl, u :: vs, i + 1, f, v, h1, h2 => by
    have := fcells_at fl vs i f v (by simpa using h1) (by simpa using h2)
    rw [show (i + 1) * 4 = i * 4 + 4 by omega]
    exact this
theorem fcells_app : ∀ (fl : List Fl) (vs : List Value) (f : Fl) (v : Value), vs.length = fl.length → fcells (fl ++ [f]) (vs ++ [v]) = fcells fl vs ++ fcell f v
  | [], [], f, v, _ => by simp [fcells]
  | [], _ :: _, f, v, h => by simp at h
  | g :: fl, [], f, v, h => by simp at h
  | g :: fl, u :: vs, f, v, h => by
    have := fcells_app fl vs f v (by simpa using h)
    simp only [List.cons_append, fcells, this, List.append_assoc]
theorem fcells_one (fl : List Fl) (vs : List Value) (h : ∀ v ∈ vs, v.oneCell' = true) : ∀ u ∈ fcells fl vs, u.oneCell' = true := by
  induction fl generalizing vs with
  | nil => simp [fcells]
  | cons f fl ih =>
    cases vs with
    | nil => simp [fcells]
    | cons v vs =>
      intro u hu
      simp only [fcells, List.mem_append] at hu
      rcases hu with hu | hu
      · simp only [fcell, List.mem_cons, List.not_mem_nil, or_false] at hu
        rcases hu with rfl | rfl | rfl | rfl
        · rfl
        · exact h _ (by simp)
        · rfl
        · rfl
      · exact ih vs (fun v hv => h v (by simp [hv])) u hu

def bodies (l : List ByteArray) : List (List Value) := l.map byteCells
def fbodies (fl : List Fl) : List (List Value) := fl.map fun f => byteCells f.b
theorem byteCells_len (s : ByteArray) : (byteCells s).length = s.size := by cases s; simp [byteCells, ByteArray.size]
theorem byteCells_one (s : ByteArray) : ∀ u ∈ byteCells s, u.oneCell' = true := by simp [byteCells, Value.oneCell']

theorem RowsAt.get {w : World} {S : Nat → Prop} {vs : List Value} {uss : List (List Value)} (h : RowsAt w S vs uss) {i : Nat} {us : List Value} (hi : uss[i]? = some us) : ∃ v, vs[i]? = some v ∧ Sl w S 1 v us.length us := h.2 i us hi
theorem RowsAt.tail {w : World} {S : Nat → Prop} {v : Value} {vs : List Value} {us : List Value} {uss : List (List Value)} (h : RowsAt w S (v :: vs) (us :: uss)) : RowsAt w S vs uss :=
  ⟨by have := h.1; simpa using this, fun i u hu => by have := h.2 (i + 1) u (by simpa using hu); simpa using this⟩
theorem RowsAt.one {w : World} {S : Nat → Prop} {vs : List Value} {uss : List (List Value)} (h : RowsAt w S vs uss) : ∀ v ∈ vs, v.oneCell' = true := by
  intro v hv
  obtain ⟨i, hi⟩ := List.mem_iff_getElem?.1 hv
  have hl := (List.getElem?_eq_some_iff.1 hi).1
  obtain ⟨v', h1, h2⟩ := h.2 i (uss[i]'(by have := h.1; omega)) (List.getElem?_eq_getElem _)
  rw [hi] at h1
  cases h1
  obtain ⟨-, p, c, e, -⟩ := h2
  subst e
  rfl

/-- A sender lies in block b, all its memory in S. -/
def SendAt (S : Nat → Prop) (w : World) (b : Nat) (window wait longest : Int) (line : List ByteArray) (fl : List Fl) (next : Int) : Prop :=
  ∃ (S1 S2 S3 : Nat → Prop) (lv fv : Value) (ls fs : List Value), S b ∧ (∀ k, S1 k → S k ∧ k ≠ b ∧ ¬ S2 k ∧ ¬ S3 k) ∧ (∀ k, S2 k → S k ∧ k ≠ b ∧ ¬ S3 k) ∧ (∀ k, S3 k → S k ∧ k ≠ b) ∧
    Blk w b #[.int .i64 window, .int .i64 wait, .int .i64 longest, lv, fv, .int .u64 next] 131 ∧
    Own w S1 22 1 lv line.length ls ∧ RowsAt w S3 ls (bodies line) ∧
    Own w S2 133 4 fv fl.length (fcells fl fs) ∧ RowsAt w S3 fs (fbodies fl)

section
variable {S S' : Nat → Prop} {w w' : World} {b : Nat} {window wait longest : Int} {line : List ByteArray} {fl : List Fl} {next : Int}
theorem SendAt.chg (h : SendAt S w b window wait longest line fl next) (c : Chg S' w w') (hs : ∀ k, S k → ¬ S' k) : SendAt S w' b window wait longest line fl next := by
  obtain ⟨S1, S2, S3, lv, fv, ls, fs, h0, h1, h2, h3, hB, hL, hR, hF, hQ⟩ := h
  exact ⟨S1, S2, S3, lv, fv, ls, fs, h0, h1, h2, h3, c.blk hB (hs _ h0), hL.chg c fun k hk => hs k (h1 k hk).1, hR.chg c fun k hk => hs k (h3 k hk).1, hF.chg c fun k hk => hs k (h2 k hk).1, hQ.chg c fun k hk => hs k (h3 k hk).1⟩
theorem SendAt.chg0 (h : SendAt S w b window wait longest line fl next) (c : Chg NoB w w') : SendAt S w' b window wait longest line fl next := h.chg c fun _ _ => id
theorem SendAt.bound (h : SendAt S w b window wait longest line fl next) (hs : ∀ k, k < w.heap.size → S k → S' k) : SendAt S' w b window wait longest line fl next := by
  obtain ⟨S1, S2, S3, lv, fv, ls, fs, h0, h1, h2, h3, hB, hL, hR, hF, hQ⟩ := h
  refine ⟨fun k => S1 k ∧ k < w.heap.size, fun k => S2 k ∧ k < w.heap.size, fun k => S3 k ∧ k < w.heap.size, lv, fv, ls, fs, hs b hB.lt h0, fun k hk => ?_, fun k hk => ?_, fun k hk => ?_, hB, hL.monoIn fun k h1 h2 => ⟨h2, h1⟩, hR.monoIn fun k h1 h2 => ⟨h2, h1⟩, hF.monoIn fun k h1 h2 => ⟨h2, h1⟩, hQ.monoIn fun k h1 h2 => ⟨h2, h1⟩⟩
  · obtain ⟨a1, a2, a3, a4⟩ := h1 k hk.1
    exact ⟨hs k hk.2 a1, a2, fun e => a3 e.1, fun e => a4 e.1⟩
  · obtain ⟨a1, a2, a3⟩ := h2 k hk.1
    exact ⟨hs k hk.2 a1, a2, fun e => a3 e.1⟩
  · obtain ⟨a1, a2⟩ := h3 k hk.1
    exact ⟨hs k hk.2 a1, a2⟩
end

def RightS (window wait longest : Int) : Prop := 1 ≤ window ∧ window ≤ 64 ∧ 1 ≤ wait ∧ wait ≤ 1000 ∧ wait ≤ longest ∧ longest ≤ 1000

theorem sendNewBad (window wait longest : Int) (w : World) (h : ¬ RightS window wait longest) : Calls Try.prog 51 #[.int .i64 window, .int .i64 wait, .int .i64 longest] w fun e w' => e = .returned (.tuple #[.pointer none, .int .i64 2]) ∧ w = w' := by
  unfold RightS at h
  by_cases h1 : window < 1
  · have d1 : decide (window < 1) = true := by simpa using h1
    go_enter Try.func51, Try.ntmps51
    go_wp2
    all_goals (go_ret2; exact ⟨rfl, rfl⟩)
  have d1 : decide (window < 1) = false := by simpa using h1
  by_cases h2 : 64 < window
  · have d2 : decide (64 < window) = true := by simpa using h2
    clear h
    go_enter Try.func51, Try.ntmps51
    go_wp2
    all_goals (go_ret2; exact ⟨rfl, rfl⟩)
  have d2 : decide (64 < window) = false := by simpa using h2
  by_cases h3 : wait < 1
  · have d3 : decide (wait < 1) = true := by simpa using h3
    clear h
    go_enter Try.func51, Try.ntmps51
    go_wp2
    all_goals (go_ret2; exact ⟨rfl, rfl⟩)
  have d3 : decide (wait < 1) = false := by simpa using h3
  by_cases h4 : 1000 < wait
  · have d4 : decide (1000 < wait) = true := by simpa using h4
    clear h
    go_enter Try.func51, Try.ntmps51
    go_wp2
    all_goals (go_ret2; exact ⟨rfl, rfl⟩)
  have d4 : decide (1000 < wait) = false := by simpa using h4
  by_cases h5 : longest < wait
  · have d5 : decide (longest < wait) = true := by simpa using h5
    clear h
    go_enter Try.func51, Try.ntmps51
    go_wp2
    all_goals (go_ret2; exact ⟨rfl, rfl⟩)
  have d5 : decide (longest < wait) = false := by simpa using h5
  have h6 : 1000 < longest := by omega
  have d6 : decide (1000 < longest) = true := by simpa using h6
  clear h
  go_enter Try.func51, Try.ntmps51
  go_wp2
  all_goals (go_ret2; exact ⟨rfl, rfl⟩)

theorem sendNew (window wait longest : Int) (w : World) (h : RightS window wait longest) : Calls Try.prog 51 #[.int .i64 window, .int .i64 wait, .int .i64 longest] w (RetV fun v w' => ∃ b, v = .tuple #[.pointer (some ⟨b, 0, none⟩), .int .i64 0] ∧ SendAt (fun k => w.heap.size ≤ k) w' b window wait longest [] [] 1 ∧ Chg NoB w w') := by
  obtain ⟨h1, h2, h3, h4, h5, h6⟩ := h
  have d1 : decide (window < 1) = false := by simp; omega
  have d2 : decide (64 < window) = false := by simp; omega
  have d3 : decide (wait < 1) = false := by simp; omega
  have d4 : decide (1000 < wait) = false := by simp; omega
  have d5 : decide (longest < wait) = false := by simp; omega
  have d6 : decide (1000 < longest) = false := by simp; omega
  go_enter Try.func51, Try.ntmps51
  go_wp2
  go_ret2
  exact ⟨_, rfl, _, rfl, ⟨NoB, NoB, NoB, _, _, [], [], Nat.le_refl _, fun _ h => h.elim, fun _ h => h.elim, fun _ h => h.elim, Blk.new w _ 131, Own.nil _ _ _ _, RowsAt.nil _ _, Own.nil _ _ _ _, RowsAt.nil _ _⟩, (Chg.refl _ _).alloc _⟩

theorem lineAt {S : Nat → Prop} {w : World} {b : Nat} {window wait longest : Int} {line : List ByteArray} {fl : List Fl} {next : Int} (h : SendAt S w b window wait longest line fl next) : Calls Try.prog 57 #[.pointer (some ⟨b, 0, none⟩)] w fun e w' => e = .returned (.int .i64 line.length) ∧ w = w' := by
  obtain ⟨S1, S2, S3, lv, fv, ls, fs, h0, h1, h2, h3, hB, hL, hR, hF, hQ⟩ := h
  obtain ⟨p1, c1, rfl⟩ : ∃ p c, lv = .slice p line.length c := by obtain ⟨-, p, c, e, -⟩ := hL.sl; exact ⟨p, c, e⟩
  obtain ⟨p2, c2, rfl⟩ : ∃ p c, fv = .slice p fl.length c := by obtain ⟨-, p, c, e, -⟩ := hF.sl; exact ⟨p, c, e⟩
  have x3 : w.cell? ⟨b, 3, none⟩ = some (.slice p1 line.length c1) := hB.cell' (i := 3) (by rfl)
  have x4 : w.cell? ⟨b, 4, none⟩ = some (.slice p2 fl.length c2) := hB.cell' (i := 4) (by rfl)
  have x5 : w.cell? ⟨b, 5, none⟩ = some (.int .u64 next) := hB.cell' (i := 5) (by rfl)
  clear hB hL hR hF hQ h1 h2 h3
  go_enter Try.func57, Try.ntmps57
  go_wp2
  go_ret
  exact ⟨rfl, rfl⟩
theorem lineNil (w : World) : Calls Try.prog 57 #[.pointer none] w fun e w' => e = .returned (.int .i64 0) ∧ w = w' := by
  go_enter Try.func57, Try.ntmps57
  go_wp2
  go_ret
  exact ⟨rfl, rfl⟩
theorem flightAt {S : Nat → Prop} {w : World} {b : Nat} {window wait longest : Int} {line : List ByteArray} {fl : List Fl} {next : Int} (h : SendAt S w b window wait longest line fl next) : Calls Try.prog 58 #[.pointer (some ⟨b, 0, none⟩)] w fun e w' => e = .returned (.int .i64 fl.length) ∧ w = w' := by
  obtain ⟨S1, S2, S3, lv, fv, ls, fs, h0, h1, h2, h3, hB, hL, hR, hF, hQ⟩ := h
  obtain ⟨p1, c1, rfl⟩ : ∃ p c, lv = .slice p line.length c := by obtain ⟨-, p, c, e, -⟩ := hL.sl; exact ⟨p, c, e⟩
  obtain ⟨p2, c2, rfl⟩ : ∃ p c, fv = .slice p fl.length c := by obtain ⟨-, p, c, e, -⟩ := hF.sl; exact ⟨p, c, e⟩
  have x3 : w.cell? ⟨b, 3, none⟩ = some (.slice p1 line.length c1) := hB.cell' (i := 3) (by rfl)
  have x4 : w.cell? ⟨b, 4, none⟩ = some (.slice p2 fl.length c2) := hB.cell' (i := 4) (by rfl)
  have x5 : w.cell? ⟨b, 5, none⟩ = some (.int .u64 next) := hB.cell' (i := 5) (by rfl)
  clear hB hL hR hF hQ h1 h2 h3
  go_enter Try.func58, Try.ntmps58
  go_wp2
  go_ret
  exact ⟨rfl, rfl⟩
theorem flightNil (w : World) : Calls Try.prog 58 #[.pointer none] w fun e w' => e = .returned (.int .i64 0) ∧ w = w' := by
  go_enter Try.func58, Try.ntmps58
  go_wp2
  go_ret
  exact ⟨rfl, rfl⟩
theorem nextAt {S : Nat → Prop} {w : World} {b : Nat} {window wait longest : Int} {line : List ByteArray} {fl : List Fl} {next : Int} (h : SendAt S w b window wait longest line fl next) : Calls Try.prog 59 #[.pointer (some ⟨b, 0, none⟩)] w fun e w' => e = .returned (.int .u64 next) ∧ w = w' := by
  obtain ⟨S1, S2, S3, lv, fv, ls, fs, h0, h1, h2, h3, hB, hL, hR, hF, hQ⟩ := h
  obtain ⟨p1, c1, rfl⟩ : ∃ p c, lv = .slice p line.length c := by obtain ⟨-, p, c, e, -⟩ := hL.sl; exact ⟨p, c, e⟩
  obtain ⟨p2, c2, rfl⟩ : ∃ p c, fv = .slice p fl.length c := by obtain ⟨-, p, c, e, -⟩ := hF.sl; exact ⟨p, c, e⟩
  have x3 : w.cell? ⟨b, 3, none⟩ = some (.slice p1 line.length c1) := hB.cell' (i := 3) (by rfl)
  have x4 : w.cell? ⟨b, 4, none⟩ = some (.slice p2 fl.length c2) := hB.cell' (i := 4) (by rfl)
  have x5 : w.cell? ⟨b, 5, none⟩ = some (.int .u64 next) := hB.cell' (i := 5) (by rfl)
  clear hB hL hR hF hQ h1 h2 h3
  go_enter Try.func59, Try.ntmps59
  go_wp2
  go_ret
  exact ⟨rfl, rfl⟩
theorem nextNil (w : World) : Calls Try.prog 59 #[.pointer none] w fun e w' => e = .returned (.int .u64 0) ∧ w = w' := by
  go_enter Try.func59, Try.ntmps59
  go_wp2
  go_ret
  exact ⟨rfl, rfl⟩

theorem offerNil (v : Value) (p : Option Addr) (n c : Nat) (w : World) : Calls Try.prog 54 #[.pointer none, .slice p n c] w (RetW (.bool false) fun w' => Chg NoB w w') := by
  go_enter Try.func54, Try.ntmps54
  go_wp2
  go_ret
  exact ⟨rfl, Chg.refl _ _⟩
theorem outNil (t : Int) (w : World) : Calls Try.prog 55 #[.pointer none, .int .i64 t] w (RetW (.slice none 0 0) fun w' => Chg NoB w w') := by
  go_enter Try.func55, Try.ntmps55
  go_wp2
  go_ret
  exact ⟨rfl, Chg.refl _ _⟩
theorem ackedNil (a : Int) (w : World) : Calls Try.prog 56 #[.pointer none, .int .u64 a] w (RetW (.int .i64 0) fun w' => Chg NoB w w') := by
  go_enter Try.func56, Try.ntmps56
  go_wp2_with fail
  go_quiet (fail)
  go_wp2
  go_ret
  exact ⟨rfl, ((Chg.refl NoB w).alloc _).drewN _⟩
theorem dueNil (w : World) : Calls Try.prog 53 #[.pointer none] w (RetW (.tuple #[.int .i64 0, .bool false]) fun w' => Chg NoB w w') := by
  go_enter Try.func53, Try.ntmps53
  go_wp2_with fail
  refine (flightNil w).mono ?_
  rintro e w' ⟨rfl, rfl⟩
  go_wp2
  go_ret2
  exact ⟨rfl, Chg.refl _ _⟩

theorem offerBig {S : Nat → Prop} {b : Nat} (p : Option Addr) (n c : Nat) (w : World) (hn : 4120 < n) : Calls Try.prog 54 #[.pointer (some ⟨b, 0, none⟩), .slice p n c] w (RetW (.bool false) fun w' => Chg NoB w w') := by
  have d : decide ((4120 : Int) < (n : Int)) = true := by simp; omega
  go_enter Try.func54, Try.ntmps54
  go_wp2
  go_ret
  exact ⟨rfl, Chg.refl _ _⟩

theorem BBinfo' : (Try.prog.info? 22).map (fun i => (i.zero, i.size, i.bytes)) = some (some (.slice none 0 0), 1, 24) := by kernel_rfl

set_option maxHeartbeats 1000000 in
set_option maxRecDepth 100000 in
theorem offerAt {S Sv : Nat → Prop} {w : World} {b : Nat} {window wait longest : Int} {line : List ByteArray} {fl : List Fl} {next : Int} (h : SendAt S w b window wait longest line fl next) (v : Value) (s : ByteArray) (hv : Sl w Sv 1 v s.size (byteCells s)) (hs : s.size ≤ 4120) (hl : line.length ≤ 100000) :
    Calls Try.prog 54 #[.pointer (some ⟨b, 0, none⟩), v] w (RetW (.bool true) fun w' => SendAt (Grow S w) w' b window wait longest (line ++ [s]) fl next ∧ Chg S w w') := by
  obtain ⟨i0, hi0, hz0, hz1, hz2⟩ := info_parts BBinfo'
  obtain ⟨S1, S2, S3, lv, fv, ls, fs, h0, h1, h2, h3, hB, hL, hR, hF, hQ⟩ := h.bound (S' := fun k => S k ∧ k < w.heap.size) fun k h1 h2 => ⟨h2, h1⟩
  obtain ⟨p1, c1, rfl⟩ : ∃ p c, lv = .slice p line.length c := by obtain ⟨-, p, c, e, -⟩ := hL.sl; exact ⟨p, c, e⟩
  obtain ⟨p2, c2, rfl⟩ : ∃ p c, fv = .slice p fl.length c := by obtain ⟨-, p, c, e, -⟩ := hF.sl; exact ⟨p, c, e⟩
  obtain ⟨pv, cv, rfl⟩ : ∃ p c, v = .slice p s.size c := by obtain ⟨-, p, c, e, -⟩ := hv; exact ⟨p, c, e⟩
  have x3 : w.cell? ⟨b, 3, none⟩ = some (.slice p1 line.length c1) := hB.cell' (i := 3) (by rfl)
  have hbl := hB.lt
  have HB := Lib.hid hB
  have HL := Lib.hid hL
  have HR := Lib.hid hR
  have HF := Lib.hid hF
  have HQ := Lib.hid hQ
  have HV := Lib.hid hv
  have H1 := Lib.hid h1
  have H2 := Lib.hid h2
  have H3 := Lib.hid h3
  have d : decide ((4120 : Int) < (s.size : Int)) = false := by simp; omega
  clear hB hL hR hF hQ hv h1 h2 h3
  go_enter Try.func54, Try.ntmps54
  go_wp2_with fail
  refine wp_region_take 9 [0, 1, 2, 3, 4, 5] [6, 7, 8] (fun w' => w'.cell? ⟨b, 3, none⟩ = some (.slice p1 line.length c1)) (by kernel_rfl) (by kernel_rfl) (fun _ _ _ _ _ h => h) (x3) ?_
  simp only [pickOps_nil, pickOps_cons, Option.getD_some, List.getElem?_toArray, List.getElem?_cons_zero, List.getElem?_cons_succ, List.cons_append, List.nil_append, List.drop_succ_cons, List.drop_zero]
  repeat
    refine wpTake_cons' rfl ?_
    apply Exists.intro
    refine ⟨fun wS hS => ?_, ?_⟩
    · try dsimp only at hS
      obtain x3 := hS
      go_simp
      try rfl
    simp only [Act.put, List.setIfInBounds_toArray, List.set_cons_zero, List.set_cons_succ]
  refine wpTake_nil ?_
  refine wpForce_cons rfl (fun K hK => ?_)
  go_simp
  refine (b_clone Sv _ s.size (byteCells s) _ (show Sl w.drew Sv 1 _ s.size (byteCells s) from HV.out) (byteCells_one s) (by omega) (by unfold maxLen; omega)).mono ?_
  rintro e' w1 ⟨v1, rfl, o1, C1'⟩
  have C1 := C1'.undrew
  have o1 : Own w1 (fun k => w.heap.size ≤ k) 5 1 v1 s.size (byteCells s) := o1
  have hz1' := C1.size
  refine hK _ _ (C1.cell x3 id) ?_
  obtain ⟨q1, e1, rfl⟩ : ∃ p c, v1 = .slice p s.size c := by obtain ⟨-, p, c, e, -⟩ := o1.sl; exact ⟨p, c, e⟩
  have A3 := (Chg.refl NoB w1).alloc (.cells #[.slice q1 s.size e1] 22)
  have oA := (HL.out.chg0 C1).chg0 A3
  have sA : Sl (w1.alloc (.cells #[.slice q1 s.size e1] 22)) _ 1 (.slice (some ⟨w1.heap.size, 0, none⟩) 1 1) 1 [.slice q1 s.size e1] := Sl.fresh w1 [.slice q1 s.size e1] 22 1 rfl
  have one1 : ∀ u ∈ [Value.slice q1 s.size e1], u.oneCell' = true := by simp [Value.oneCell']
  have b1 : line.length + 1 ≤ maxLen := by unfold maxLen; omega
  have b2 : (line.length + 1) * 24 ≤ 140737488355328 := by omega
  have O1 := Lib.hid o1
  have y3 := A3.cell (C1.cell x3 id) id
  refine wpForce_cons rfl (fun K2 hK2 => ?_)
  go_simp
  refine hK2 _ _ (by first | exact y3 | trivial) ?_
  refine wpForce_cons rfl (fun K3 hK3 => ?_)
  refine opwp_app _ _ 29 rfl i0 _ 24 Try.underlying29 hi0 hz0 hz1 hz2 rfl (by rfl) oA _ 1 _ (by rfl) sA one1 b1 b2 ?_
  intro v8 w8 o8 g8 _
  obtain ⟨p8, c8, rfl⟩ : ∃ p c, v8 = .slice p (line.length + 1) c := by obtain ⟨-, p, c, e, -⟩ := o8.sl; exact ⟨p, c, e⟩
  have C8 : Chg S1 w1 w8 := (A3.mono (fun _ _ h => h.elim)).grown g8 (fun k hk => .inl (HL.out.ownBlock k hk).1)
  have C8' : Chg S1 w w8 := (C1.mono (S' := S1) fun _ _ h => h.elim).trans C8 fun _ _ h => h
  have hOB := HL.out.ownBlock
  have hz8 := C8.size
  have B8 := C8'.blk HB.out (fun e => (H1.out _ e).2.1 rfl)
  have y3 := B8.cell' (i := 3) (v := .slice p1 line.length c1) (by rfl)
  refine hK3 _ _ y3 ?_
  refine wpForce_nil ?_
  clear hK hK2 hK3 K K2 K3 C1' x3 o1
  have yf := B8.frozen 3
  have yl := B8.lt
  have HB8 := Lib.hid B8
  have HO8 := Lib.hid o8
  clear sA one1 b1 b2 g8 A3 oA B8 o8
  go_wp2_with fail
  go_ret
  have CS := (Chg.refl (· = b) w8).setCell (a := ⟨b, 3, none⟩) (.inl rfl) (.slice p8 (line.length + 1) c8)
  refine ⟨rfl, ⟨fun k => S1 k ∨ w1.heap.size ≤ k, S2, fun k => S3 k ∨ (w.heap.size ≤ k ∧ k < w1.heap.size), (.slice p8 (line.length + 1) c8), .slice p2 fl.length c2, ls ++ [.slice q1 s.size e1], fs, .inl h0.1, ?_, ?_, ?_, ?_, ?_, ?_, ?_, ?_⟩, ?_⟩
  · rintro k (hk | hk)
    · obtain ⟨⟨a1, a0⟩, a2, a3, a4⟩ := H1.out k hk
      exact ⟨.inl a1, a2, a3, fun e => e.elim a4 (fun e => by omega)⟩
    · exact ⟨.inr (by omega), by omega, fun e => by have := (H2.out k e).1.2; omega, fun e => e.elim (fun e => by have := (H3.out k e).1.2; omega) (fun e => by omega)⟩
  · intro k hk
    obtain ⟨⟨a1, a0⟩, a2, a3⟩ := H2.out k hk
    exact ⟨.inl a1, a2, fun e => e.elim a3 (fun e => by omega)⟩
  · rintro k (hk | hk)
    · exact ⟨.inl (H3.out k hk).1.1, (H3.out k hk).2⟩
    · exact ⟨.inr (by omega), by omega⟩
  · exact HB8.out.set 3 (.slice p8 (line.length + 1) c8)
  · rw [List.length_append]
    refine (HO8.out.monoIn (S' := fun k => S1 k ∨ w1.heap.size ≤ k) fun k _ hk => hk.elim (fun hk => .inl (hOB k hk).1) (fun hk => .inr (by first | (rw [hk, World.size_alloc]; omega) | omega))).chg CS fun k hk e => ?_
    rcases hk with hk | hk
    · exact (H1.out k hk).2.1 e
    · omega
  · unfold bodies
    rw [List.map_append]
    refine RowsAt.snoc ?_ ?_
    · exact (((HR.out.chg0 C1).chg C8 fun k hk e => (H1.out k e).2.2.2 hk).chg CS fun k hk e => (H3.out k hk).2 e).monoIn fun k _ hk => .inl hk
    · rw [byteCells_len]
      exact (((O1.out.sl.monoIn (S' := fun k => w.heap.size ≤ k ∧ k < w1.heap.size) fun k h1 h2 => ⟨h2, h1⟩).chg C8 fun k hk e => by have := (H1.out k e).1.2; omega).chg CS fun k hk e => by omega).mono fun k hk => .inr hk
  · exact (HF.out.chg C8' fun k hk e => (H1.out k e).2.2.1 hk).chg CS fun k hk e => (H2.out k hk).2.1 e
  · exact ((HQ.out.chg C8' fun k hk e => (H1.out k e).2.2.2 hk).chg CS fun k hk e => (H3.out k hk).2 e).monoIn fun k _ hk => .inl hk
  · exact (C8'.mono fun k _ h => (H1.out k h).1.1).setCell (a := ⟨b, 3, none⟩) (.inl h0.1) (.slice p8 (line.length + 1) c8)
end Go.Proofs.Ytokigldggkkbcaa
