/- The reference's sender: Due, Out. -/
import Derived.Test.YtokigldggkkbcaaSendRef
set_option linter.unusedVariables false
namespace Go.Proofs.Ytokigldggkkbcaa
open Go.RowKit Go.RR

def dueR (l : List Fl) : Int := (l.map (·.due)).foldl min ((l.map (·.due)).headD 0)
theorem dueR_one (f : Fl) : dueR [f] = f.due := by simp [dueR]
theorem dueR_snoc (l : List Fl) (f : Fl) (h : 0 < l.length) : dueR (l ++ [f]) = min (dueR l) f.due := by
  cases l with
  | nil => simp at h
  | cons x l => simp [dueR]

set_option maxHeartbeats 1000000 in
set_option maxRecDepth 100000 in
theorem rdueAt {S : Nat → Prop} {w : World} {c : Nat} {window wait longest : Int} {line : List ByteArray} {fl : List Fl} {next : Int} (h : RefS S w c window wait longest line fl next) (hl : fl.length ≤ 100000) (d : Int) (hd : dueR fl = d) :
    Calls Try.prog 63 #[.pointer (some ⟨c, 0, none⟩)] w (RetW (.tuple #[.int .i64 d, .bool (decide (0 < fl.length))]) fun w' => Chg NoB w w') := by
  obtain ⟨lv, fv, h0, hB, hL, hF⟩ := h
  obtain ⟨p2, c2, rfl⟩ := hF.form
  have x4 := hB.cell' (i := 4) (v := .slice p2 fl.length c2) (by rfl)
  have xl := hB.lt
  have HB := Lib.hid hB
  have HF := Lib.hid hF
  have HD := Lib.hid hd
  clear hB hL hF hd
  go_enter Try.func63, Try.ntmps63
  go_wp2_with fail
  go_loopg [4, 12] fl.length (fun m dv ix wr => ∃ i : Nat, i + m = fl.length ∧ ix = .int .i64 i ∧ dv = .int .i64 (dueR (fl.take i)) ∧ Chg NoB w wr)
  case atStart => exact ⟨0, by omega, rfl, rfl, Chg.refl _ _⟩
  case round =>
    obtain ⟨i, hi, rfl, rfl, hC⟩ := hrel
    have HI := Lib.hid hi
    have hil : i ≤ fl.length := by omega
    clear hi x4
    by_cases hlt : i < fl.length
    · obtain ⟨f, hf⟩ : ∃ f, fl[i]? = some f := ⟨fl[i], by simp [hlt]⟩
      obtain ⟨-, p, c', e, -, h2⟩ := HF.out
      cases e
      obtain ⟨g, off, rfl, -, hg, hc⟩ := h2 (by omega)
      obtain ⟨a0, a1, a2, a3⟩ := bcells_at _ i f hf
      have k0 := hC.cell (hc _ _ a0) id
      have k1 := hC.cell (hc _ _ a1) id
      have k2 := hC.cell (hc _ _ a2) id
      have k3 := hC.cell (hc _ _ a3) id
      rw [← Nat.add_assoc] at k1 k2 k3
      have j0 : (0 : Int) ≤ i := by omega
      have j1 : (i : Int) < fl.length := by omega
      have htk : fl.take (i + 1) = fl.take i ++ [f] := by rw [List.take_add_one, hf]; rfl
      have HTK := Lib.hid htk
      clear h2 hc a0 a1 a2 a3 htk hf
      by_cases hi0 : i = 0
      · subst hi0
        have hdd : dueR (fl.take (0 + 1)) = f.due := by rw [HTK.out, List.take_zero, List.nil_append, dueR_one]
        have HDD := Lib.hid hdd
        clear hdd
        simp only [Nat.zero_mul, Nat.add_zero, Nat.zero_add] at k0 k1 k2 k3
        go_wp2_with fail
        go_roundg (fl.length - 1)
        case measure => have := HI.out; omega
        case rel => exact ⟨0 + 1, by have := HI.out; omega, by go_num, by rw [HDD.out], hC.alloc _⟩
      · have hne : ((i : Int) == 0) = false := by simp [hi0]
        have hdd : dueR (fl.take (i + 1)) = min (dueR (fl.take i)) f.due := by rw [HTK.out, dueR_snoc _ _ (by rw [List.length_take]; omega)]
        generalize dueR (fl.take i) = dd at *
        have HDD := Lib.hid hdd
        clear hdd hi0
        by_cases hm : f.due < dd
        · have d1 : decide (f.due < dd) = true := by simpa using hm
          have HE := Lib.hid (show min dd f.due = f.due by omega)
          clear hm
          go_wp2_with fail
          go_roundg (fl.length - (i + 1))
          case measure => have := HI.out; omega
          case rel => exact ⟨i + 1, by have := HI.out; omega, by go_num, by rw [HDD.out, HE.out], hC.alloc _⟩
        · have d1 : decide (f.due < dd) = false := by simpa using hm
          have HE := Lib.hid (show min dd f.due = dd by omega)
          clear hm
          go_wp2_with fail
          go_roundg (fl.length - (i + 1))
          case measure => have := HI.out; omega
          case rel => exact ⟨i + 1, by have := HI.out; omega, by go_num, by rw [HDD.out, HE.out], hC.alloc _⟩
    · obtain rfl : i = fl.length := by have := HI.out; omega
      have hd := HD.out
      rw [List.take_length, hd]
      have B5 := hC.blk0 HB.out
      have y4 := B5.cell' (i := 4) (v := .slice p2 fl.length c2) (by rfl)
      have yl := B5.lt
      cases hn : decide (0 < fl.length) with
      | true =>
        have HN := Lib.hid hn
        have d1 : decide ((0 : Int) < (fl.length : Int)) = true := by simp at hn ⊢; omega
        clear hn
        go_wp2_with fail
        go_quiet (fail)
        go_wp2
        go_ret2
        exact ⟨by rw [HN.out]; rfl, hC.drewN _⟩
      | false =>
        have HN := Lib.hid hn
        have d1 : decide ((0 : Int) < (fl.length : Int)) = false := by simp at hn ⊢; omega
        clear hn
        go_wp2_with fail
        go_quiet (fail)
        go_wp2
        go_ret2
        exact ⟨by rw [HN.out]; rfl, hC.drewN _⟩

/-- Two slices of bodies of the call's own, apart: what is sent, what is under way. -/
def Two (H : Nat) (w : World) (vo vl : Value) (os ls : List Fl) : Prop :=
  ∃ A B : Nat → Prop, (∀ q, A q → (H ≤ q ∧ q < w.heap.size) ∧ ¬ B q) ∧ (∀ q, B q → H ≤ q ∧ q < w.heap.size) ∧ Own w A 138 4 vo os.length (bcells os) ∧ Own w B 138 4 vl ls.length (bcells ls)
section
variable {H : Nat} {w w' : World} {vo vl : Value} {os ls : List Fl}
theorem Two.chg0 (h : Two H w vo vl os ls) (c : Chg NoB w w') : Two H w' vo vl os ls := by
  obtain ⟨A, B, h1, h2, h3, h4⟩ := h
  have := c.size
  exact ⟨A, B, fun q hq => ⟨⟨(h1 q hq).1.1, by have := (h1 q hq).1.2; omega⟩, (h1 q hq).2⟩, fun q hq => ⟨(h2 q hq).1, by have := (h2 q hq).2; omega⟩, h3.chg0 c, h4.chg0 c⟩
theorem Two.chg (h : Two H w vo vl os ls) {S : Nat → Prop} (c : Chg S w w') (hS : ∀ q, S q → q < H) : Two H w' vo vl os ls := by
  obtain ⟨A, B, h1, h2, h3, h4⟩ := h
  have := c.size
  exact ⟨A, B, fun q hq => ⟨⟨(h1 q hq).1.1, by have := (h1 q hq).1.2; omega⟩, (h1 q hq).2⟩, fun q hq => ⟨(h2 q hq).1, by have := (h2 q hq).2; omega⟩, h3.chg c fun q hq e => by have := (h1 q hq).1.1; have := hS q e; omega, h4.chg c fun q hq e => by have := (h2 q hq).1; have := hS q e; omega⟩
theorem Two.addO {A B : Nat → Prop} (h1 : ∀ q, A q → (H ≤ q ∧ q < w.heap.size) ∧ ¬ B q) (h2 : ∀ q, B q → H ≤ q ∧ q < w.heap.size) (h3 : Own w A 138 4 vo os.length (bcells os)) (h4 : Own w B 138 4 vl ls.length (bcells ls))
    {v8 : Value} {f : Fl} {x : Nat} (hH : H ≤ w.heap.size) (o8 : Own w' (fun k => vo.ownBlock = some k ∨ k = x) 138 4 v8 (os.length + 1) (bcells os ++ [.int .u64 f.seq, .string f.b, .int .i64 f.due, .int .i64 f.wait])) (hx : w.heap.size ≤ x) (c : Chg (fun k => vo.ownBlock = some k) w w') :
    Two H w' v8 vl (os ++ [f]) ls ∧ Chg (fun k => H ≤ k) w w' := by
  have hOB := h3.ownBlock
  have hs := c.size
  refine ⟨⟨fun q => (vo.ownBlock = some q ∨ q = x) ∧ q < w'.heap.size, B, fun q hq => ?_, fun q hq => ⟨(h2 q hq).1, by have := (h2 q hq).2; omega⟩, ?_, h4.chg c fun q hq e => (h1 q (hOB q e).1).2 hq⟩, c.mono fun q _ e => (h1 q (hOB q e).1).1.1⟩
  · rcases hq with ⟨hq | hq, hq2⟩
    · obtain ⟨⟨a1, a2⟩, a3⟩ := h1 q (hOB q hq).1
      exact ⟨⟨a1, hq2⟩, a3⟩
    · exact ⟨⟨by omega, hq2⟩, fun e => by have := (h2 q e).2; omega⟩
  · rw [List.length_append, bcells_app]
    exact o8.monoIn fun q a b => ⟨b, a⟩
theorem Two.addL {A B : Nat → Prop} (h1 : ∀ q, A q → (H ≤ q ∧ q < w.heap.size) ∧ ¬ B q) (h2 : ∀ q, B q → H ≤ q ∧ q < w.heap.size) (h3 : Own w A 138 4 vo os.length (bcells os)) (h4 : Own w B 138 4 vl ls.length (bcells ls))
    {v8 : Value} {f : Fl} {x : Nat} (hH : H ≤ w.heap.size) (o8 : Own w' (fun k => vl.ownBlock = some k ∨ k = x) 138 4 v8 (ls.length + 1) (bcells ls ++ [.int .u64 f.seq, .string f.b, .int .i64 f.due, .int .i64 f.wait])) (hx : w.heap.size ≤ x) (c : Chg (fun k => vl.ownBlock = some k) w w') :
    Two H w' vo v8 os (ls ++ [f]) ∧ Chg (fun k => H ≤ k) w w' := by
  have hOB := h4.ownBlock
  have hs := c.size
  refine ⟨⟨A, fun q => (vl.ownBlock = some q ∨ q = x) ∧ q < w'.heap.size, fun q hq => ?_, fun q hq => ?_, h3.chg c fun q hq e => (h1 q hq).2 (hOB q e).1, ?_⟩, c.mono fun q _ e => (h2 q (hOB q e).1).1⟩
  · obtain ⟨⟨a1, a2⟩, a3⟩ := h1 q hq
    exact ⟨⟨a1, by omega⟩, fun e => e.1.elim (fun e => a3 (hOB q e).1) (fun e => by omega)⟩
  · rcases hq with ⟨hq | hq, hq2⟩
    · exact ⟨(h2 q (hOB q hq).1).1, hq2⟩
    · exact ⟨by omega, hq2⟩
  · rw [List.length_append, bcells_app]
    exact o8.monoIn fun q a b => ⟨b, a⟩
end
end Go.Proofs.Ytokigldggkkbcaa
