/- The audit's small functions: sets of nodes, bag, ring, a page at rest, what is between, senders, receivers. No condition. The audit: links at rest (senders, receivers), configs, what is right. No condition. The audit: homes at rest: their pages, their states. No condition. -/
import Derived.Test.YtleilfkcjollaaaGreatGa
import Derived.Test.YtleilfkcjollaaaGreatProg
import Derived.Test.YtleilfkcjollaaaGreatGd
import Derived.MapKept
set_option linter.unusedVariables false
set_option linter.unusedSimpArgs false
namespace Go.Proofs.YtleilfkcjollaaaGreat
open Go.RowKit Go.RR
theorem between_any (n a b : Int) (w : World) : Calls Tryz.prog 81 #[.int .i64 n, .int .i64 a, .int .i64 b] w (RetW (.bool (decide (a ≤ n) && decide (n ≤ b))) fun w' => w' = w) := by
  generalize h1 : decide (a ≤ n) = b1
  generalize h2 : decide (n ≤ b) = b2
  cases b1 <;> cases b2 <;>
  · go_enter Tryz.func81, Tryz.ntmps81
    go_wp2_with fail
    go_ret
    exact ⟨rfl, rfl⟩
/-- A ring that nothing was pushed into. -/
def ringC : Array Value := #[.slice none 0 0, .int .i64 0, .int .i64 0, .int .i64 16]
def pgC (me owner number : Int) (rb : Nat) : Array Value := #[.int .i64 me, .int .i64 number, .int .i64 0, .bool (owner == me), .int .i64 owner, .int .u16 0, .int .i64 0, .int .u16 0, .bool false, .int .i64 (-1), .int .i64 0, .pointer (some ⟨rb, 0, none⟩), .slice none 0 0, .bool false]
/-- A page at rest. -/
structure PgAt (w : World) (pb rb : Nat) (me owner number : Int) : Prop where
  blk : Blk w pb (pgC me owner number rb) 212
  ring : Blk w rb ringC 280
theorem PgAt.chg0 {w w' : World} {pb rb : Nat} {me owner number : Int} (h : PgAt w pb rb me owner number) (c : Chg NoB w w') : PgAt w' pb rb me owner number := ⟨c.blk0 h.blk, c.blk0 h.ring⟩
end Go.Proofs.YtleilfkcjollaaaGreat
set_option linter.unusedVariables false
set_option linter.unusedSimpArgs false
namespace Go.Proofs.YtleilfkcjollaaaGreat
open Go.RowKit Go.RR
def sdC : Array Value := #[.int .i64 2, .int .i64 3, .int .i64 12, .slice none 0 0, .slice none 0 0, .int .u64 1]
theorem sendNew_any (w : World) : Calls Tryz.prog 79 #[.int .i64 2, .int .i64 3, .int .i64 12] w (RetW (.tuple #[.pointer (some ⟨w.heap.size, 0, none⟩), .int .i64 0]) fun w' => Blk w' w.heap.size sdC 240 ∧ Chg NoB w w') := by
  have hB := Lib.hid (Blk.new w sdC 240)
  have hC := Lib.hid ((Chg.refl NoB w).alloc (.cells sdC 240))
  go_enter Tryz.func79, Tryz.ntmps79
  go_wp2_with fail
  go_ret2
  exact ⟨rfl, hB.out, hC.out⟩
/-- A receiver at rest. -/
def RvAt (w : World) (S : Nat → Prop) (rb : Nat) : Prop := ∃ mb, (S rb ∧ S mb) ∧ Blk w rb #[.int .i64 2, .int .u64 1, .map (some mb)] 243 ∧ w.heap[mb]? = some (.map #[] 0)
theorem RvAt.chg {w w' : World} {S S' : Nat → Prop} {rb : Nat} (h : RvAt w S rb) (c : Chg S' w w') (hs : ∀ k, S k → ¬ S' k) : RvAt w' S rb := by
  obtain ⟨mb, h0, h1, h2⟩ := h
  have hlt : mb < w.heap.size := by
    by_cases h : mb < w.heap.size
    · exact h
    · rw [Array.getElem?_eq_none (by omega)] at h2; cases h2
  refine ⟨mb, h0, c.blk h1 (hs _ h0.1), ?_⟩
  rw [c.block mb hlt (hs _ h0.2)]
  exact h2
theorem RvAt.chg0 {w w' : World} {S : Nat → Prop} {rb : Nat} (h : RvAt w S rb) (c : Chg NoB w w') : RvAt w' S rb := h.chg c fun _ _ => id
theorem RvAt.mono {w : World} {S S' : Nat → Prop} {rb : Nat} (h : RvAt w S rb) (hs : ∀ k, k < w.heap.size → S k → S' k) : RvAt w S' rb := by
  obtain ⟨mb, h0, h1, h2⟩ := h
  exact ⟨mb, ⟨hs _ h1.lt h0.1, hs _ (Array.getElem?_eq_some_iff.1 h2).1 h0.2⟩, h1, h2⟩
theorem recvNew_any (w : World) : Calls Tryz.prog 80 #[.int .i64 2] w (RetV fun v w' => ∃ rb, v = .tuple #[.pointer (some ⟨rb, 0, none⟩), .int .i64 0] ∧ w.heap.size ≤ rb ∧ RvAt w' (fun k => w.heap.size ≤ k) rb ∧ Chg NoB w w') := by
  have hmm := @run_makeMap Tryz.prog
  go_enter Tryz.func80, Tryz.ntmps80
  go_wp2_with fail
  go_ret2
  refine ⟨_, rfl, _, rfl, ?_, ⟨w.heap.size, ?_, ?_, ?_⟩, ((Chg.refl _ _).alloc _).alloc _⟩
  · simp
  · exact ⟨by simp, Nat.le_refl _⟩
  · have := Blk.new (w.alloc (.map #[] 0)) #[.int .i64 2, .int .u64 1, .map (some w.heap.size)] 243
    simpa using this
  · rw [((Chg.refl NoB (w.alloc (.map #[] 0))).alloc _).block w.heap.size (by rw [World.size_alloc]; omega) id]
    show (w.heap.push (.map #[] 0))[w.heap.size]? = _
    exact Array.getElem?_push_size
def confC (n p : Int) : Array Value := #[.int .i64 n, .int .i64 1, .int .i64 p, .int .i64 2, .int .i64 2, .int .i64 2, .int .i64 2, .int .i64 3, .int .i64 12]
theorem usual_any (n p : Int) (w : World) : Calls Tryz.prog 16 #[.int .i64 n, .int .i64 p] w (RetW (.agg (confC n p)) fun w' => Chg NoB w w') := by
  have hC := Lib.hid ((Chg.refl NoB w).alloc (.cells (confC n p) 28))
  go_enter Tryz.func16, Tryz.ntmps16
  go_wp2_with fail
  exact bodyPost_ret (v := .agg (confC n p)) (by simp [results, Tryz.results16, go_sem, confC]) rfl ⟨rfl, hC.out⟩
set_option maxHeartbeats 1000000 in
set_option maxRecDepth 100000 in
theorem nright_any (n p : Nat) (hn : 2 ≤ n) (hn2 : n ≤ 16) (hp : p ≤ 65536) (w : World) : Calls Tryz.prog 49 #[.agg (confC n p)] w (RetW (.bool true) fun w' => Chg NoB w w') := by
  have hB := Lib.hid (Blk.new w (confC n p) 28)
  have hC := Lib.hid ((Chg.refl NoB w).alloc (.cells (confC n p) 28))
  have HN := Lib.hid (And.intro hn (And.intro hn2 hp))
  have hbn : ∀ a b c : Int, a ≤ b → b ≤ c → ∀ w, Calls Tryz.prog 81 #[.int .i64 b, .int .i64 a, .int .i64 c] w (RetW (.bool true) fun w' => w' = w) := fun a b c h1 h2 w => by
    have := between_any b a c w
    rwa [decide_eq_true h1, decide_eq_true h2] at this
  have HB := Lib.hid hbn
  clear hn hn2 hp hbn
  go_enter Tryz.func49, Tryz.ntmps49
  unfold confC at hB hC ⊢
  go_upto_region 1 with fail
  generalize w.alloc (.cells #[.int .i64 n, .int .i64 1, .int .i64 p, .int .i64 2, .int .i64 2, .int .i64 2, .int .i64 2, .int .i64 3, .int .i64 12] 28) = w1 at *
  obtain ⟨cb, hcb⟩ : ∃ b, w.heap.size = b := ⟨_, rfl⟩
  rw [hcb] at hB
  simp only [hcb]
  clear hcb
  have f := hB.out.cell
  have fl := hB.out.lt
  go_wp2_with fail
  refine (sendNew_any _).mono ?_
  rintro e w2 ⟨rfl, -, C2⟩
  have HK2 := Lib.hid (C2.blk0 hB.out)
  have HC2 := Lib.hid (hC.out.step C2)
  clear f fl C2
  have f := HK2.out.cell
  have fl := HK2.out.lt
  go_wp2_with fail
  refine (recvNew_any _).mono ?_
  rintro e w3 ⟨v, rfl, rb, rfl, -, -, C3⟩
  have HK3 := Lib.hid (C3.blk0 HK2.out)
  have HC3 := Lib.hid (HC2.out.step C3)
  clear f fl C3
  have f := HK3.out.cell
  have fl := HK3.out.lt
  go_wp2_with fail
  refine (HB.out 1 2 64 (by omega) (by omega) _).mono ?_
  rintro e w4 ⟨rfl, h4⟩
  subst h4
  go_wp2_with fail
  refine (HB.out 0 1 16 (by omega) (by omega) _).mono ?_
  rintro e w4 ⟨rfl, h4⟩
  subst h4
  go_wp2_with fail
  refine (HB.out 0 p 65536 (by omega) (by have := HN.out.2.2; omega) _).mono ?_
  rintro e w4 ⟨rfl, h4⟩
  subst h4
  go_wp2_with fail
  refine (HB.out 2 n 16 (by have := HN.out.1; omega) (by have := HN.out.2.1; omega) _).mono ?_
  rintro e w4 ⟨rfl, h4⟩
  subst h4
  go_wp2_with fail
  refine (HB.out 1 2 8 (by omega) (by omega) _).mono ?_
  rintro e w4 ⟨rfl, h4⟩
  subst h4
  go_wp2_with fail
  go_ret
  exact ⟨rfl, HC3.out⟩
end Go.Proofs.YtleilfkcjollaaaGreat
set_option linter.unusedVariables false
set_option linter.unusedSimpArgs false
namespace Go.Proofs.YtleilfkcjollaaaGreat
open Go.RowKit Go.RR
/-- A map whose entries bear their stamps: no key stands twice. -/
def Stm (w : World) (b : Nat) : Prop := ∃ es clock, w.heap[b]? = some (.map es clock) ∧ MapKept.Stamped es clock
theorem Stm.chg {w w' : World} {S : Nat → Prop} {b : Nat} (h : Stm w b) (c : Chg S w w') (hn : ¬ S b) : Stm w' b := by
  obtain ⟨es, clock, h1, h2⟩ := h
  exact ⟨es, clock, (c.block b (Array.getElem?_eq_some_iff.1 h1).1 hn).trans h1, h2⟩
/-- A home at rest: the pages that something was asked about. -/
structure Hm where
  hb : Nat
  mb : Nat
  sp : Nat
  me : Int
  nodes : Int
  code : Int
  priv : Int
  shared : Int
def Hm.cells (h : Hm) : Array Value := #[.int .i64 h.me, .int .i64 h.nodes, .pointer (some ⟨h.sp, 0, none⟩), .int .i64 h.code, .int .i64 h.priv, .int .i64 h.shared, .map (some h.mb)]
structure HmAt (w : World) (h : Hm) (ps : List (Int × Nat × Nat)) : Prop where
  blk : Blk w h.hb h.cells 153
  map : MapAt w h.mb .i64 (ps.map fun p => (p.1, .pointer (some ⟨p.2.1, 0, none⟩)))
  page : ∀ p ∈ ps, PgAt w p.2.1 p.2.2 h.me (p.1 % h.nodes) p.1
  st : Stm w h.mb
  kn : ∀ p ∈ ps, 0 ≤ p.1 ∧ p.1 < h.shared
theorem PgAt.chg {w w' : World} {S : Nat → Prop} {pb rb : Nat} {me owner number : Int} (h : PgAt w pb rb me owner number) (c : Chg S w w') (h1 : ¬ S pb) (h2 : ¬ S rb) : PgAt w' pb rb me owner number := ⟨c.blk h.blk h1, c.blk h.ring h2⟩
theorem HmAt.chg0 {w w' : World} {h : Hm} {ps : List (Int × Nat × Nat)} (a : HmAt w h ps) (c : Chg NoB w w') : HmAt w' h ps := ⟨c.blk0 a.blk, a.map.chg c id, fun p hp => (a.page p hp).chg0 c, a.st.chg c id, a.kn⟩
theorem HmAt.chg {w w' : World} {S : Nat → Prop} {h : Hm} {ps : List (Int × Nat × Nat)} (a : HmAt w h ps) (c : Chg S w w') (h1 : ¬ S h.hb) (h2 : ¬ S h.mb) (h3 : ∀ p ∈ ps, ¬ S p.2.1 ∧ ¬ S p.2.2) : HmAt w' h ps :=
  ⟨c.blk a.blk h1, a.map.chg c h2, fun p hp => (a.page p hp).chg c (h3 p hp).1 (h3 p hp).2, a.st.chg c h2, a.kn⟩
end Go.Proofs.YtleilfkcjollaaaGreat
