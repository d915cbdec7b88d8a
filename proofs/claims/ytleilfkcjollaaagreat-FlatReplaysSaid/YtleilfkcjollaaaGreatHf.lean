/- The audit: what is read of a space: frames, used ones, which page an address is in. No condition. The audit: how many frames a space needs; a new home; links. No condition. The audit: a new node: its space, its home, its core, its links. No condition. -/
import Derived.Test.YtleilfkcjollaaaGreatHe
import Derived.Test.YtleilfkcjollaaaGreatGz
import Derived.Test.YtleilfkcjollaaaGreatHa
import Derived.Deep.LoopGhost
import Derived.Test.YtleilfkcjollaaaGreatHb
set_option linter.unusedVariables false
set_option linter.unusedSimpArgs false
namespace Go.Proofs.YtleilfkcjollaaaGreat
open Go.RowKit Go.RR
theorem sFrames_any {w : World} {L : Pl} {s : Spc} (h : SpAt w L s) : Calls Tryz.prog 128 #[.pointer (some ⟨L.pb, 0, none⟩)] w (RetW (.int .i64 s.u.fr) fun w' => w' = w) := by
  have f3 := h.blk.cell' (i := 3) (v := .pointer (some ⟨L.mb, 0, none⟩)) rfl
  have fl := h.blk.lt
  have HF := Lib.hid (frames_any h.mu.mem)
  clear h
  go_enter Tryz.func128, Tryz.ntmps128
  go_wp2_with fail
  refine HF.out.mono ?_
  rintro e w1 ⟨rfl, rfl⟩
  go_wp2_with fail
  go_ret
  exact ⟨rfl, rfl⟩
set_option maxHeartbeats 1000000 in
set_option maxRecDepth 100000 in
theorem which_in {w : World} {L : Pl} {s : Spc} (h : SpAt w L s) (v : Nat) (n : Int) (hv : (v : Int) = 1073741824 + 4096 * n) (h0 : 0 ≤ n) (hn : n ≤ 65536) (hs : s.shape.shared ≤ 65536) (hs0 : 0 ≤ s.shape.shared) (hc : n < s.shape.shared) :
    Calls Tryz.prog 65 #[.pointer (some ⟨L.pb, 0, none⟩), .int .u64 v] w (RetW (.tuple #[.int .i64 n, .bool true]) fun w' => w' = w) := by
  obtain ⟨sh, hsh⟩ : ∃ k, s.shape.shared = k := ⟨_, rfl⟩
  have f2 := h.blk.cell' (i := 2) (v := .int .i64 s.shape.shared) rfl
  rw [hsh] at f2 hs hc hs0
  have fl := h.blk.lt
  have t1 : decide ((v : Int) < 1073741824) = false := decide_eq_false (by omega)
  have q1 : IntKind.u64.wrap ((v : Int) - 1073741824) = 4096 * n := by rw [IntKind.wrap_u64]; omega
  have q2 : IntKind.u64.wrap ((IntKind.u64.wrap ((v : Int) - 1073741824)).tdiv 4096) = n := by rw [q1, Int.tdiv_eq_ediv_of_nonneg (by omega), IntKind.wrap_u64]; omega
  have q3 : IntKind.u64.wrap sh = sh := by rw [IntKind.wrap_u64]; omega
  have t2 : decide (IntKind.u64.wrap sh ≤ IntKind.u64.wrap ((IntKind.u64.wrap ((v : Int) - 1073741824)).tdiv 4096)) = false := by rw [q2, q3]; exact decide_eq_false (by omega)
  have HQ : Hid (wrap64 n = n) := Lib.hid (IntWalk.wrap64_in _ (by omega))
  have HQ2 := Lib.hid q2
  clear h hsh hv h0 hn hs hc q1 q2 q3 hs0
  go_enter Tryz.func65, Tryz.ntmps65
  go_wp2_with fail
  rw [HQ2.out, HQ.out]; go_ret2; exact ⟨rfl, rfl⟩
end Go.Proofs.YtleilfkcjollaaaGreat
set_option linter.unusedVariables false
set_option linter.unusedSimpArgs false
namespace Go.Proofs.YtleilfkcjollaaaGreat
open Go.RowKit Go.RR
theorem SpAt.bdd {w : World} {L : Pl} {s : Spc} (h : SpAt w L s) : ∀ k, L.All k → k < w.heap.size := fun k hk => hk.elim (fun e => (h.ap.nm k e).1) (h.ap.bd k)
set_option maxHeartbeats 1000000 in
set_option maxRecDepth 100000 in
theorem sNeed_any (p : Int) (hp : p = 1 ∨ p = 2) (w : World) : Calls Tryz.prog 84 #[.agg #[.int .i64 1, .int .i64 1, .int .i64 p]] w (RetW (.int .i64 (7 + p)) fun w' => Chg NoB w w') := by
  have HR := Lib.hid fun w' => shapeRight_any ⟨1, 1, p⟩ w'
  have t1 : (⟨1, 1, p⟩ : Shp).ok = true := by rcases hp with rfl | rfl <;> rfl
  rw [t1] at HR
  clear t1
  have k0 : Chg NoB w (w.alloc (.cells #[.int .i64 1, .int .i64 1, .int .i64 p] 112)) := (Chg.refl NoB w).alloc _
  have hB := Lib.hid (Blk.new w #[.int .i64 1, .int .i64 1, .int .i64 p] 112)
  have K0 := Lib.hid k0
  clear k0
  rcases hp with rfl | rfl
  all_goals
    go_enter Tryz.func84, Tryz.ntmps84
    go_wp2_with fail
    refine (HR.out _).mono ?_
    rintro e w1 ⟨rfl, C1⟩
    have hB := C1.blk0 hB.out
    have g := hB.cell
    have gl := hB.lt
    have HC := Lib.hid (K0.out.step C1)
    clear hB C1 HR
    go_wp2_with fail
    go_ret
    exact ⟨rfl, HC.out⟩
set_option maxHeartbeats 2000000 in
set_option maxRecDepth 100000 in
theorem homeNew_any {w : World} {L : Pl} {s : Spc} (h : SpAt w L s) (me n : Nat) (p : Int) (hp : p = 1 ∨ p = 2) (hn : 2 ≤ n) (hn2 : n ≤ 16) (hm : me < n) (hfr : 7 + p ≤ s.u.fr) :
    Calls Tryz.prog 87 #[.int .i64 me, .int .i64 n, .pointer (some ⟨L.pb, 0, none⟩), .agg #[.int .i64 1, .int .i64 1, .int .i64 p]] w
      (RetV fun v w' => ∃ hb mb, v = .tuple #[.pointer (some ⟨hb, 0, none⟩), .int .i64 0] ∧ w.heap.size ≤ hb ∧ w.heap.size ≤ mb ∧ HmAt w' ⟨hb, mb, L.pb, me, n, 1, 1, p⟩ [] ∧ Chg NoB w w') := by
  have HS := Lib.hid fun w' => sNeed_any p hp w'
  have HF := Lib.hid fun w' (c : Chg NoB w w') => sFrames_any (h.chg0 c)
  obtain ⟨fr, hfr'⟩ : ∃ k, s.u.fr = k := ⟨_, rfl⟩
  rw [hfr'] at hfr HF
  have hm2 : (me : Int) < 16 := by omega
  have t1 : decide ((n : Int) < 2) = false := decide_eq_false (by omega)
  have t2 : decide ((16 : Int) < n) = false := decide_eq_false (by omega)
  have t3 : decide ((me : Int) < 0) = false := decide_eq_false (by omega)
  have t4 : decide ((n : Int) ≤ me) = false := decide_eq_false (by omega)
  have t5 : decide ((fr : Int) < 7 + p) = false := decide_eq_false (by omega)
  have q2 : decide (n < 2) = false := decide_eq_false (by omega)
  have q3 : decide (16 < n) = false := decide_eq_false (by omega)
  have q4 : decide (n ≤ me) = false := decide_eq_false (by omega)
  have hB := Lib.hid (Blk.new w #[.int .i64 1, .int .i64 1, .int .i64 p] 112)
  have hC := Lib.hid ((Chg.refl NoB w).alloc (.cells #[.int .i64 1, .int .i64 1, .int .i64 p] 112))
  have hmm := @run_makeMap Tryz.prog
  clear h hfr hfr' hp hn hn2 hm
  go_enter Tryz.func87, Tryz.ntmps87
  go_upto_region 1 with fail
  generalize w.alloc (.cells #[.int .i64 1, .int .i64 1, .int .i64 p] 112) = w0 at *
  have g := hB.out.ever
  have gl := hB.out.everL
  have HF0 := Lib.hid fun w' (c : Chg NoB w0 w') => HF.out w' (hC.out.step c)
  have c0 := Chg.refl NoB w0
  clear hmm
  go_upto_region 5 with fail
  go_region_held3 (fun w' => Chg NoB w0 w') ((repeat (first | with_reducible assumption | with_reducible apply Chg.drew | with_reducible apply Chg.drewN | with_reducible apply Chg.alloc))) (first | (go_at_call 128; (with_reducible refine (HF0.out _ (by with_reducible assumption)).mono ?_); rintro e w9 ⟨rfl, hw⟩; subst hw) | (go_at_call 84; (with_reducible refine (HS.out _).mono ?_); rintro e w9 ⟨rfl, hC'⟩; have c9 := Chg.step (by with_reducible assumption : Chg NoB w0 _) hC'; clear hC'))
  rename_i w9 c9 _
  have HC9 := Lib.hid (hC.out.step c9)
  have hmm := @run_makeMap Tryz.prog
  go_wp2_with fail
  go_ret2
  have hz := HC9.out.size
  have hm1 : (w9.alloc (.map #[] 0)).heap[w9.heap.size]? = some (.map #[] 0) := at_top rfl
  have hB1 := Blk.new (w9.alloc (.map #[] 0)) #[.int .i64 me, .int .i64 n, .pointer (some ⟨L.pb, 0, none⟩), .int .i64 1, .int .i64 1, .int .i64 p, .map (some w9.heap.size)] 153
  rw [World.size_alloc] at hB1
  exact ⟨_, rfl, _, _, rfl, by omega, hz, ⟨hB1, MapAt.ofNew (at_alloc _ hm1), (fun p hp => by cases hp), ⟨_, _, at_alloc _ hm1, MapKept.stamped_empty _⟩, (fun p hp => by cases hp)⟩, (HC9.out.alloc _).alloc _⟩
end Go.Proofs.YtleilfkcjollaaaGreat
set_option linter.unusedVariables false
set_option linter.unusedSimpArgs false
namespace Go.Proofs.YtleilfkcjollaaaGreat
open Go.RowKit Go.RR
/-- A link at rest. -/
def LinkAt (w : World) (S : Nat → Prop) (v : Value) : Prop := ∃ lb sb rb, v = .pointer (some ⟨lb, 0, none⟩) ∧ S lb ∧ S sb ∧ Blk w lb #[.pointer (some ⟨sb, 0, none⟩), .pointer (some ⟨rb, 0, none⟩), .bool false] 190 ∧ Blk w sb sdC 240 ∧ RvAt w S rb
theorem LinkAt.chg {w w' : World} {S S' : Nat → Prop} {v : Value} (h : LinkAt w S v) (c : Chg S' w w') (hs : ∀ k, S k → ¬ S' k) : LinkAt w' S v := by
  obtain ⟨lb, sb, rb, e, h1, h2, b1, b2, b3⟩ := h
  exact ⟨lb, sb, rb, e, h1, h2, c.blk b1 (hs _ h1), c.blk b2 (hs _ h2), b3.chg c hs⟩
theorem LinkAt.mono {w : World} {S S' : Nat → Prop} {v : Value} (h : LinkAt w S v) (hs : ∀ k, k < w.heap.size → S k → S' k) : LinkAt w S' v := by
  obtain ⟨lb, sb, rb, e, h1, h2, b1, b2, b3⟩ := h
  exact ⟨lb, sb, rb, e, hs _ b1.lt h1, hs _ b2.lt h2, b1, b2, b3.mono hs⟩
/-- The links of a node's first i others. -/
def LksAt (w : World) (S : Nat → Prop) (me i : Nat) (cs : List Value) : Prop := ∀ j, j < i → ∃ v, cs[j]? = some v ∧ (j = me → v = .pointer none) ∧ (j ≠ me → LinkAt w S v)
theorem LksAt.chg {w w' : World} {S S' : Nat → Prop} {me i : Nat} {cs : List Value} (h : LksAt w S me i cs) (c : Chg S' w w') (hs : ∀ k, S k → ¬ S' k) : LksAt w' S me i cs := fun j hj => by
  obtain ⟨v, h1, h2, h3⟩ := h j hj
  exact ⟨v, h1, h2, fun e => (h3 e).chg c hs⟩
theorem LksAt.mono {w : World} {S S' : Nat → Prop} {me i : Nat} {cs : List Value} (h : LksAt w S me i cs) (hs : ∀ k, k < w.heap.size → S k → S' k) : LksAt w S' me i cs := fun j hj => by
  obtain ⟨v, h1, h2, h3⟩ := h j hj
  exact ⟨v, h1, h2, fun e => (h3 e).mono hs⟩
/-- A node's shell at rest: its block, its links. -/
structure NdAt (w : World) (S : Nat → Prop) (nb pb hb cb n me : Nat) : Prop where
  s : S nb
  ex : ∃ v cs, Blk w nb #[.int .i64 me, .pointer (some ⟨pb, 0, none⟩), .pointer (some ⟨hb, 0, none⟩), .pointer (some ⟨cb, 0, none⟩), v, .int .i64 (-1)] 110 ∧ Sl w S 1 v n cs ∧ LksAt w S me n cs
theorem NdAt.chg {w w' : World} {S S' : Nat → Prop} {nb pb hb cb n me : Nat} (h : NdAt w S nb pb hb cb n me) (c : Chg S' w w') (hs : ∀ k, S k → ¬ S' k) : NdAt w' S nb pb hb cb n me := by
  obtain ⟨v, cs, h1, h2, h3⟩ := h.ex
  exact ⟨h.s, v, cs, c.blk h1 (hs _ h.s), h2.chg c hs, h3.chg c hs⟩
theorem NdAt.mono {w : World} {S S' : Nat → Prop} {nb pb hb cb n me : Nat} (h : NdAt w S nb pb hb cb n me) (hs : ∀ k, k < w.heap.size → S k → S' k) : NdAt w S' nb pb hb cb n me := by
  obtain ⟨v, cs, h1, h2, h3⟩ := h.ex
  exact ⟨hs _ h1.lt h.s, v, cs, h1, h2.monoIn hs, h3.mono hs⟩
theorem LINKPi : (Tryz.prog.info? 188).map (fun i => (i.zero, i.size, i.bytes)) = some (some (.pointer none), 1, 8) := by kernel_rfl
end Go.Proofs.YtleilfkcjollaaaGreat
