/- What layer 17's statements ask first. -/
import Derived.Test.YtokigldggkkbcaaSend8
import Derived.Test.YtokigldggkkbcaaStr
set_option linter.unusedVariables false
namespace Go.Proofs.Ytokigldggkkbcaa
open Go.RowKit Go.RR

theorem fresh_marked (w : World) (s : ByteArray) (r : Nat × Nat) : Sl (w.alloc (.cells (byteCells s).toArray 5 r)) (fun k => k = w.heap.size) 1 (.slice (some ⟨w.heap.size, 0, none⟩) s.size s.size) s.size (byteCells s) :=
  Sl.of (by rw [byteCells_len]; omega) (Nat.le_refl _) rfl (by simp) (fun j u hu => by
    rw [Nat.zero_add]
    have hb : (w.alloc (.cells (byteCells s).toArray 5 r)).heap[w.heap.size]? = some (.cells (byteCells s).toArray 5 r) := heap_alloc_new w _
    rw [cell_of_row _ _ _ _ _ _ hb]
    simpa using hu)

/-- The first of what is sent. -/
theorem OutAt.head {w : World} {S : Nat → Prop} {q : Value} {seq : Int} {s : ByteArray} {outs : List (Int × ByteArray)} (h : OutAt w S q ((seq, s) :: outs)) :
    ∃ g off c p n, q = .slice (some ⟨g, off, none⟩) (outs.length + 1) c ∧ w.cell? ⟨g, off, none⟩ = some (.int .u64 seq) ∧ w.cell? ⟨g, off + 1, none⟩ = some (.slice p s.size n) ∧ Sl w S 1 (.slice p s.size n) s.size (byteCells s) := by
  obtain ⟨S1, S2, vs, h1, h2, h3, h4⟩ := h
  obtain ⟨v, hv, hvs⟩ := h4.2 0 s rfl
  obtain ⟨p, n, rfl⟩ := hvs.form
  obtain ⟨g, off, c, e, -, -, -, hc, -⟩ := h3.spot (by simp)
  obtain ⟨a0, a1⟩ := icells_at ((seq, s) :: outs) _ 0 (seq, s) _ rfl hv
  exact ⟨g, off, c, p, n, e, hc 0 _ a0, hc 1 _ a1, hvs.sl.mono h2⟩

/-- Out, its sets by name. -/
theorem outStep {S : Nat → Prop} {w : World} {b : Nat} {window wait longest : Int} {line : List ByteArray} {fl : List Fl} {next : Int} (h : SendAt S w b window wait longest line fl next) (now t : Int) (ht : clampT now = t) (hfl : FlOk fl) (hlo : LineOk line) (hrt : RightS window wait longest) (hlen : fl.length ≤ 1000) (hlen2 : line.length ≤ 1000) (hnx : 0 ≤ next ∧ next ≤ 1000000)
    (o2 : List (Int × ByteArray)) (line2 : List ByteArray) (fl2 : List Fl) (next2 : Int) (hres : fillF window wait t line (fl.map (agF t longest)) next = (o2, line2, fl2, next2)) :
    Calls Try.prog 55 #[.pointer (some ⟨b, 0, none⟩), .int .i64 now] w (RetV fun q w' => ∃ S' X : Nat → Prop, SendAt S' w' b window wait longest line2 fl2 next2 ∧ OutAt w' X q (agOut t fl ++ o2) ∧ (∀ k, X k → ¬ S' k ∧ w.heap.size ≤ k) ∧ (∀ k, S' k → S k ∨ w.heap.size ≤ k) ∧ Chg S w w') := by
  refine (outAt h now t ht hfl hlo hrt hlen hlen2 hnx o2 line2 fl2 next2 hres).mono ?_
  rintro e w' ⟨q, rfl, T, h1, h2, h3⟩
  exact ⟨q, rfl, _, _, h1, h2, fun k hk => ⟨fun e => e.elim (fun e => by omega) (fun e => hk.2 e.2), hk.1⟩, fun k hk => hk.elim (fun h => .inl h.1) (fun h => .inr h.1), h3⟩
theorem OutAt.kept {w w' : World} {S S' X : Nat → Prop} {q : Value} {outs : List (Int × ByteArray)} (h : OutAt w X q outs) (hX : ∀ k, X k → ¬ S k) (c : Chg S w w') (hS : ∀ k, S' k → S k ∨ w.heap.size ≤ k) : ∃ X', OutAt w' X' q outs ∧ ∀ k, X' k → ¬ S' k :=
  ⟨_, (h.bound (S' := fun k => X k ∧ k < w.heap.size) fun k a b => ⟨b, a⟩).chg c fun k hk => hX k hk.1, fun k hk e => (hS k e).elim (hX k hk.1) (fun h => by omega)⟩


theorem flok1 (f : Fl) (h : (0 ≤ f.wait ∧ f.wait ≤ 1000) ∧ f.b.size ≤ 4120) : FlOk [f] := by
  intro g hg
  simp at hg
  subst hg
  exact h

set_option maxHeartbeats 4000000 in
set_option maxRecDepth 100000 in
theorem first17 (w : World) : Calls Try.prog 50 #[] w (RetW (.bool true) fun w' => Chg NoB w w') := by
  have kc := fun (w : World) (C : Array Value) (n c : Nat) => Lib.run_convert_bytes_const (P := Try.prog) w 22 5 C n c Try.underlying22 Try.underlying5
  go_enter Try.func50, Try.ntmps50
  go_wp2_with fail
  refine (sendNew 1 2 3 w (by unfold RightS; decide)).mono ?_
  rintro e w1 ⟨_, rfl, b, rfl, G1, C1⟩
  have s_w1 := fresh_marked w1 ⟨#[97]⟩ (1, 2)
  have A_w1 : Chg NoB w1 (w1.alloc (.cells #[.int .u8 97] 5 (1, 2))) := (Chg.refl NoB w1).alloc _
  have s_w1 : Sl (w1.alloc (.cells #[.int .u8 97] 5 (1, 2))) (fun k => k = w1.heap.size) 1 (.slice (some ⟨w1.heap.size, 0, none⟩) 1 1) 1 (byteCells ⟨#[97]⟩) := s_w1
  go_wp2_with fail
  refine (offerAt (SendAt.chg0 G1 A_w1) _ ⟨#[97]⟩ s_w1 (by decide) (by decide)).mono ?_
  rintro e w2 ⟨rfl, G2, C2⟩
  have s_w2 := fresh_marked w2 ⟨#[98]⟩ (1, 2)
  have A_w2 : Chg NoB w2 (w2.alloc (.cells #[.int .u8 98] 5 (1, 2))) := (Chg.refl NoB w2).alloc _
  have s_w2 : Sl (w2.alloc (.cells #[.int .u8 98] 5 (1, 2))) (fun k => k = w2.heap.size) 1 (.slice (some ⟨w2.heap.size, 0, none⟩) 1 1) 1 (byteCells ⟨#[98]⟩) := s_w2
  go_wp2_with fail
  refine (offerAt (SendAt.chg0 G2 A_w2) _ ⟨#[98]⟩ s_w2 (by decide) (by decide)).mono ?_
  rintro e w3 ⟨rfl, G3, C3⟩
  have H3 : SendAt (fun k => w.heap.size ≤ k) w3 b 1 2 3 [⟨#[97]⟩, ⟨#[98]⟩] [] 1 := G3.bound fun k _ h => by
    have h1 := (C1.step A_w1).size
    have h2 := ((C1.step A_w1).size)
    have h3 := C2.size
    have h4 := A_w2.size
    rcases h with (h | h) | h
    · exact h
    · omega
    · omega
  have K2 : Chg NoB w w2 := (C1.step A_w1).trans C2 fun k hk e => absurd hk (Nat.not_lt.2 e)
  have K3 : Chg NoB w w3 := (K2.step A_w2).trans C3 fun k hk e => by
    have h1 := (C1.step A_w1).size
    rcases (show w.heap.size ≤ k ∨ (w1.alloc (.cells #[.int .u8 97] 5 (1, 2))).heap.size ≤ k from e) with e | e
    · exact absurd hk (Nat.not_lt.2 e)
    · exact absurd hk (Nat.not_lt.2 (Nat.le_trans h1 e))
  clear s_w1 s_w2 A_w1 A_w2 C1 C2 C3 G1 G2 G3
  go_wp2_with fail
  refine (outStep H3 0 0 (by decide) (fun f hf => by cases hf) (by (intro f hf; simp at hf; rcases hf with rfl | rfl <;> decide)) (by unfold RightS; decide) (by decide) (by decide) (by decide) [(1, ⟨#[97]⟩)] [⟨#[98]⟩] [⟨1, ⟨#[97]⟩, 2, 2⟩] 2 (by rfl)).mono ?_
  rintro e w4 ⟨q4, rfl, S4, X4, G4, O4, HX4, HS4, C4⟩
  have K4 : Chg NoB w w4 := K3.trans C4 fun k hk e => by omega
  have hS4 : ∀ k, S4 k → w.heap.size ≤ k := fun k h => (HS4 k h).elim id (fun h => by have := K3.size; omega)
  have O4 : OutAt w4 X4 q4 [(1, ⟨#[97]⟩)] := O4
  have D4 : ∀ k, X4 k → ¬ S4 k := fun k h => (HX4 k h).1
  clear H3 HX4 HS4 C4
  go_wp2_with fail
  refine (outStep G4 1 1 (by decide) (flok1 _ (by decide)) (by (intro f hf; simp at hf; subst hf; decide)) (by unfold RightS; decide) (by decide) (by decide) (by decide) [] [⟨#[98]⟩] [⟨1, ⟨#[97]⟩, 2, 2⟩] 2 (by rfl)).mono ?_
  rintro e w5 ⟨q5, rfl, S5, X5, G5, O5, HX5, HS5, C5⟩
  have K5 : Chg NoB w w5 := K4.trans C5 fun k hk e => by have := hS4 k e; omega
  have hS5 : ∀ k, S5 k → w.heap.size ≤ k := fun k h => (HS5 k h).elim (hS4 k) (fun h => by have := K4.size; omega)
  have O5 : OutAt w5 X5 q5 [] := O5
  have D5 : ∀ k, X5 k → ¬ S5 k := fun k h => (HX5 k h).1
  obtain ⟨X45, O45, D45⟩ := OutAt.kept O4 D4 C5 HS5
  clear G4 HX5 HS5 C5 O4 D4
  go_wp2_with fail
  refine (outStep G5 2 2 (by decide) (flok1 _ (by decide)) (by (intro f hf; simp at hf; subst hf; decide)) (by unfold RightS; decide) (by decide) (by decide) (by decide) [] [⟨#[98]⟩] [⟨1, ⟨#[97]⟩, 5, 3⟩] 2 (by rfl)).mono ?_
  rintro e w6 ⟨q6, rfl, S6, X6, G6, O6, HX6, HS6, C6⟩
  have K6 : Chg NoB w w6 := K5.trans C6 fun k hk e => by have := hS5 k e; omega
  have hS6 : ∀ k, S6 k → w.heap.size ≤ k := fun k h => (HS6 k h).elim (hS5 k) (fun h => by have := K5.size; omega)
  have O6 : OutAt w6 X6 q6 [(1, ⟨#[97]⟩)] := O6
  have D6 : ∀ k, X6 k → ¬ S6 k := fun k h => (HX6 k h).1
  obtain ⟨X46, O46, D46⟩ := OutAt.kept O45 D45 C6 HS6
  obtain ⟨X56, O56, D56⟩ := OutAt.kept O5 D5 C6 HS6
  clear G5 HX6 HS6 C6 O45 D45 O5 D5
  obtain ⟨p5, c5, rfl⟩ : ∃ p c, q5 = .slice p 0 c := by obtain ⟨_, _, _, _, _, h, _⟩ := O56; exact h.form
  go_wp2_with fail
  refine (dueAt G6 (by decide) 5 (by decide)).mono ?_
  rintro e w7 ⟨rfl, C7⟩
  have G7 := G6.chg0 C7
  have K7 := K6.step C7
  have O47 := O46.chg0 C7
  have O67 := O6.chg0 C7
  clear G6 O46 O56 O6 D56 C7
  go_wp2_with fail
  refine (ackedAt G7 (by decide) 2 [] (by rfl)).mono ?_
  rintro e w8 ⟨rfl, G8, C8⟩
  have K8 : Chg NoB w w8 := K7.trans C8 fun k hk e => by have := hS6 k e; omega
  obtain ⟨X48, O48, D48⟩ := OutAt.kept (S' := S6) O47 D46 C8 (fun k h => .inl h)
  obtain ⟨X68, O68, D68⟩ := OutAt.kept (S' := S6) O67 D6 C8 (fun k h => .inl h)
  clear G7 O47 O67 D46 D6 C8
  go_wp2_with fail
  refine (outStep G8 3 3 (by decide) (fun f hf => by cases hf) (by (intro f hf; simp at hf; subst hf; decide)) (by unfold RightS; decide) (by decide) (by decide) (by decide) [(2, ⟨#[98]⟩)] [] [⟨2, ⟨#[98]⟩, 5, 2⟩] 3 (by rfl)).mono ?_
  rintro e w9 ⟨q9, rfl, S9, X9, G9, O9, HX9, HS9, C9⟩
  have K9 : Chg NoB w w9 := K8.trans C9 fun k hk e => by have := hS6 k e; omega
  have O9 : OutAt w9 X9 q9 [(2, ⟨#[98]⟩)] := O9
  obtain ⟨X49, O49, D49⟩ := OutAt.kept O48 D48 C9 HS9
  obtain ⟨X69, O69, D69⟩ := OutAt.kept O68 D68 C9 HS9
  obtain ⟨g1, f1, c1, u1, n1, rfl, a1, a2, a3⟩ := OutAt.head O49
  obtain ⟨g2, f2, c2, u2, n2, rfl, b1, b2, b3⟩ := OutAt.head O69
  obtain ⟨g3, f3, c3, u3, n3, rfl, d1, d2, d3⟩ := OutAt.head O9
  have ks : (convert 22 9 (.slice u1 1 n1)).run Try.prog w9 = .ok (.string ⟨#[97]⟩) w9 := run_text (P := Try.prog) 22 9 5 Try.underlying22 Try.underlying5 Try.underlying9 a3
  have HG9 := Lib.hid G9
  clear O48 D48 O68 D68 O49 O69 O9 D49 D69 HX9 HS9 C9 G8 a3 b2 b3 d2 d3 G9
  have l1 := World.block_lt_of_cell? w9 _ a1
  have l2 := World.block_lt_of_cell? w9 _ b1
  have l3 := World.block_lt_of_cell? w9 _ d1
  simp only at l1 l2 l3
  go_wp2_with fail
  refine (nextAt HG9.out).mono ?_
  rintro e w10 ⟨rfl, rfl⟩
  go_wp2
  go_ret
  exact ⟨rfl, K9⟩
end Go.Proofs.Ytokigldggkkbcaa
