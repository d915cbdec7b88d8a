/- A region that draws its order, where one operation may be taken at any time and makes memory, and the others are forced or may be taken first. No condition. BuildRuns returns true, whatever it is given. -/
import Derived.Test.YthceikgkaellkaaGreatGe
import Derived.Test.YthceikgkaellkaaGreatHs
import Derived.Test.YthceikgkaellkaaGreatHt
import Derived.Deep.MidRow
set_option linter.unusedVariables false
namespace Go.RR
open Go.RowKit
section
variable {P : Program} {ops : Array Oper} {md : Region.Mode} {S : World → Prop} {Q : Exit → Act → World → Prop}
def floatB (md : Region.Mode) (ops : Array Oper) (g n f : Nat) (l2 : List (Bool × Nat)) : List (Bool × Nat) → Array Bool → Bool
  | [], listed => decide (Region.ready md ops listed = [f]) && mixB md ops g n l2 (listed.setIfInBounds f true)
  | (true, k) :: l, listed => decide (k < n) && (((ops[k]?).bind (·.dst)).isSome) && (Region.ready md ops listed).contains k && Region.free md ops listed k && floatB md ops g n f l2 l (listed.setIfInBounds k true)
  | (false, k) :: l, listed => decide (k < n) && (Region.ready md ops listed).all (fun i => decide (i = k) || decide (i = f)) && !(Region.ready md ops listed).isEmpty && floatB md ops g n f l2 l (listed.setIfInBounds k true) && mixB md ops g n (((false, k) :: l) ++ l2) (listed.setIfInBounds f true)
def floatAllB (md : Region.Mode) (ops : Array Oper) (n f : Nat) (l l2 : List (Bool × Nat)) : Bool :=
  Region.noSelect ops && decide (n < ops.size) && decide (f < n) && decide (l.length + 1 + l2.length = n) && Region.sinkB md ops n && Region.chainB md ops n && ((ops[f]?).getD default).guard.isNone && floatB md ops (ops.size - n) n f l2 l (Array.replicate ops.size false)
def wpFloat (P : Program) (ops : Array Oper) (Q : Exit → Act → World → Prop) (S : World → Prop) (R : Act → World → Prop) (fo : Oper) (l2 : List (Bool × Oper)) : List (Bool × Oper) → Act → World → Prop
  | [], a, w => fo.wp P a w (fun a' w' => S w' ∧ wpMix P ops Q S R l2 a' w') Q
  | (true, o) :: l, a, w => ∃ v, YieldsIf P ops S o v a ∧ wpFloat P ops Q S R fo l2 l (a.put o.dst v) w
  | (false, o) :: l, a, w => fo.wp P a w (fun a' w' => S w' ∧ wpMix P ops Q S R ((false, o) :: (l ++ l2)) a' w') Q ∧
      (if Region.wanted o (yielded ops a.tmps) then o.wp P a w (fun a' w' => S w' ∧ wpFloat P ops Q S R fo l2 l a' w') Q else S w ∧ wpFloat P ops Q S R fo l2 l (a.put o.dst undef) w)
theorem pickMix_app (A B : List (Bool × Nat)) : pickMix ops (A ++ B) = pickMix ops A ++ pickMix ops B := by
  induction A with
  | nil => rfl
  | cons x A ih => obtain ⟨b, k⟩ := x; rw [List.cons_append, pickMix_cons, pickMix_cons, ih]; rfl
theorem anyK_float {n f : Nat} {fo : Oper} (hf : ops[f]? = some fo) (hfg : fo.guard = none) (hsel : Region.noSelect ops = true) (hs : Region.sinkB md ops n = true) (hc : Region.chainB md ops n = true) (hn : n < ops.size) (hfn : f < n)
    (hQ : ∀ c a d v w, Q (.panic c) (a.put (some d) v) w → Q (.panic c) a w) (A2 : List (Bool × Nat)) :
    ∀ (A : List (Bool × Nat)) (listed : Array Bool) (a : Act) (w : World), S w → HeadInv md ops n listed → floatB md ops (ops.size - n) n f A2 A listed = true →
    wpFloat P ops Q S (wpList P ops Q (ops.toList.drop n)) fo (pickMix ops A2) (pickMix ops A) a w → anyK P md ops Q S n (A.length + 1 + A2.length + (ops.size - n)) listed a w
  | [], listed, a, w, hS, inv, hB, h => by
    simp only [floatB, Bool.and_eq_true, decide_eq_true_eq] at hB
    obtain ⟨hr, hB'⟩ := hB
    rw [show ([] : List (Bool × Nat)).length + 1 + A2.length + (ops.size - n) = (A2.length + (ops.size - n)) + 1 by simp; omega]
    refine ⟨fun h1 => (by rw [hr] at h1; cases h1), fun i hi => ?_⟩
    have hr' : f ∈ Region.ready md ops listed := by rw [hr]; exact List.mem_singleton.2 rfl
    have hik : i = f := by rw [hr] at hi; simpa using hi
    subst hik
    unfold wpFloat at h
    unfold wpOp
    simp only [hf]
    rw [if_pos (by simp [Region.wanted, hfg])]
    exact .inl (Oper.wp_mono (fun a' w' h' => ⟨fun _ => h'.1, anyK_mix hsel hs hc hn hQ A2 _ a' w' h'.1 (inv.set hr' hfn) hB' h'.2⟩) h)
  | (true, k) :: A, listed, a, w, hS, inv, hB, h => by
    simp only [floatB, Bool.and_eq_true, decide_eq_true_eq] at hB
    obtain ⟨⟨⟨⟨hkn, hd⟩, hr⟩, hf'⟩, hB'⟩ := hB
    have hr' : k ∈ Region.ready md ops listed := by simpa using hr
    obtain ⟨hkun, o, h0, _⟩ := mem_ready.1 hr'
    rw [pickMix_cons, h0, Option.getD_some] at h
    obtain ⟨v, hy, hK⟩ := h
    rw [h0] at hd
    obtain ⟨d, hd'⟩ := Option.isSome_iff_exists.1 hd
    simp only [Option.bind_some] at hd'
    rw [show ((true, k) :: A).length + 1 + A2.length + (ops.size - n) = (A.length + 1 + A2.length + (ops.size - n)) + 1 by simp; omega]
    exact anyK_first h0 (Region.noSelect_spec hsel) hs hc hn hkn (fun c a w => by rw [hd']; exact hQ c a d _ w) _ listed a w inv (Region.free_spec h0 hf') hr' hy hS
      (anyK_float hf hfg hsel hs hc hn hfn hQ A2 A _ _ w hS (inv.set hr' hkn) hB' hK)
  | (false, k) :: A, listed, a, w, hS, inv, hB, h => by
    simp only [floatB, Bool.and_eq_true, decide_eq_true_eq, List.all_eq_true, Bool.or_eq_true, Bool.not_eq_true'] at hB
    obtain ⟨⟨⟨⟨hkn, hr⟩, hne⟩, hB1⟩, hB2⟩ := hB
    rw [show ((false, k) :: A).length + 1 + A2.length + (ops.size - n) = (A.length + 1 + A2.length + (ops.size - n)) + 1 by simp; omega]
    refine ⟨fun h1 => (by rw [h1] at hne; cases hne), fun i hi => ?_⟩
    obtain ⟨_, o, h0, _⟩ := mem_ready.1 hi
    by_cases hif : i = f
    · subst hif
      rw [hf] at h0
      cases h0
      rw [pickMix_cons] at h
      unfold wpFloat at h
      unfold wpOp
      simp only [hf]
      rw [if_pos (by simp [Region.wanted, hfg])]
      rw [show A.length + 1 + A2.length + (ops.size - n) = ((false, k) :: A ++ A2).length + (ops.size - n) by simp; omega]
      exact .inl (Oper.wp_mono (fun a' w' h' => ⟨fun _ => h'.1, anyK_mix hsel hs hc hn hQ ((false, k) :: A ++ A2) _ a' w' h'.1 (inv.set hi hfn) hB2 (by rw [List.cons_append, pickMix_cons, pickMix_app]; exact h'.2)⟩) h.1)
    · have hik : i = k := (hr i hi).elim id fun e => (hif e).elim
      subst hik
      rw [pickMix_cons, h0, Option.getD_some] at h
      unfold wpFloat at h
      have h := h.2
      unfold wpOp
      simp only [h0]
      split
      · rename_i hw
        rw [if_pos hw] at h
        exact .inl (Oper.wp_mono (fun a' w' h' => ⟨fun _ => h'.1, anyK_float hf hfg hsel hs hc hn hfn hQ A2 A _ a' w' h'.1 (inv.set hi hkn) hB1 h'.2⟩) h)
      · rename_i hw
        rw [if_neg hw] at h
        exact ⟨fun _ => h.1, anyK_float hf hfg hsel hs hc hn hfn hQ A2 A _ _ w h.1 (inv.set hi hkn) hB1 h.2⟩
theorem wp_region_float {id : Nat} {a : Act} {w : World} {l : List Oper} (n f : Nat) (A A2 : List (Bool × Nat)) (S : World → Prop) (hm : P.follows .mixedOrders = true) (hB : floatAllB .any l.toArray n f A A2 = true)
    (hQ : ∀ c a d v w, Q (.panic c) (a.put (some d) v) w → Q (.panic c) a w) (hS : S w.drew)
    (h : wpFloat P l.toArray Q S (wpList P l.toArray Q (l.drop n)) ((l.toArray[f]?).getD default) (pickMix l.toArray A2) (pickMix l.toArray A) a w.drew) : (Code.region id l.toArray true).wp P Q a w := by
  simp only [floatAllB, Bool.and_eq_true, decide_eq_true_eq] at hB
  obtain ⟨⟨⟨⟨⟨⟨⟨hsel, hn⟩, hfn⟩, hAl⟩, hs⟩, hc⟩, hg⟩, ht⟩ := hB
  have inv0 : HeadInv .any l.toArray n (Array.replicate l.toArray.size false) :=
    ⟨by simp, fun j oj _ hl => (by rw [getD_replicate_false] at hl; cases hl), fun t _ ht => getD_in (by simpa using ht) (getD_replicate_false _ _)⟩
  have hfs : l.toArray[f]? = some ((l.toArray[f]?).getD default) := by
    rw [Array.getElem?_eq_getElem (by omega : f < l.toArray.size)]
    rfl
  have := anyK_float (P := P) (S := S) hfs (by simpa [Option.isNone_iff_eq_none] using hg) hsel hs hc hn hfn hQ A2 A _ a w.drew hS inv0 ht h
  rw [show A.length + 1 + A2.length + (l.toArray.size - n) = l.toArray.size by omega] at this
  exact wp_region_any hm (anyK_any _ _ _ _ this)
theorem wpFloat_nil {R : Act → World → Prop} {fo : Oper} {l2 : List (Bool × Oper)} {a : Act} {w : World}
    (h : ∀ K : Act → World → Prop, (∀ a' w', S w' → wpMix P ops Q S R l2 a' w' → K a' w') → fo.wp P a w K Q) : wpFloat P ops Q S R fo l2 [] a w :=
  h _ fun a' w' h1 h2 => ⟨h1, h2⟩
theorem wpFloat_take {R : Act → World → Prop} {fo o : Oper} {l2 l : List (Bool × Oper)} {a : Act} {w : World} (hg : o.guard = none) (h : ∃ v, (∀ w, S w → (execOp a.eval o).run P w = .ok (.value v) w) ∧ wpFloat P ops Q S R fo l2 l (a.put o.dst v) w) : wpFloat P ops Q S R fo l2 ((true, o) :: l) a w :=
  ⟨h.choose, .inl ⟨by simp [Region.wanted, hg], h.choose_spec.1⟩, h.choose_spec.2⟩
theorem wpFloat_fork {R : Act → World → Prop} {fo o : Oper} {l2 l : List (Bool × Oper)} {a : Act} {w : World} (hg : o.guard = none)
    (h1 : ∀ K : Act → World → Prop, (∀ a' w', S w' → wpMix P ops Q S R ((false, o) :: (l ++ l2)) a' w' → K a' w') → fo.wp P a w K Q)
    (h2 : ∀ K : Act → World → Prop, (∀ a' w', S w' → wpFloat P ops Q S R fo l2 l a' w' → K a' w') → o.wp P a w K Q) : wpFloat P ops Q S R fo l2 ((false, o) :: l) a w := by
  unfold wpFloat
  rw [if_pos (by simp [Region.wanted, hg])]
  exact ⟨h1 _ fun a' w' x y => ⟨x, y⟩, h2 _ fun a' w' x y => ⟨x, y⟩⟩
end
end Go.RR
set_option linter.unusedVariables false
set_option linter.unusedSimpArgs false
namespace Go.Proofs.YthceikgkaellkaaGreat
open Go.RowKit Go.RR
theorem rcs_size (f : Nat → Nat) : (rcs f).size = 16 := rfl
theorem rcs_one (f : Nat → Nat) : (rcs f).all (·.oneCell') = true := by
  rw [Array.all_eq_true_iff_forall_mem]
  intro v hv
  simp only [rcs, List.mem_toArray, List.mem_cons, List.not_mem_nil, or_false] at hv
  rcases hv with rfl | rfl | rfl | rfl | rfl | rfl | rfl | rfl | rfl | rfl | rfl | rfl | rfl | rfl | rfl | rfl <;> rfl
theorem arr_info : (Tryz.prog.info? 65).map (·.size) = some 16 := by kernel_rfl
/-- An array of sixteen words is read whole. -/
theorem rcs_load {w : World} {b : Nat} {f : Nat → Nat} (h : Blk w b (rcs f) 65) : (Instr.loadAt 65 (.pointer (some ⟨b, 0, none⟩))).run Tryz.prog w = .ok (.agg (rcs f)) w := by
  have := run_loadAt_mid (P := Tryz.prog) w b 0 65 (rcs f).toList _ (fun j v hv => by
    rw [Nat.zero_add]
    rw [Array.getElem?_toList] at hv
    exact h.cell' hv) Tryz.underlying65 rfl (by rw [arr_info]; rfl)
  rwa [Array.toArray_toList] at this
theorem exec_load {w : World} {op : Oper} {a : Act} {v : Value} (ty : TypeId) (x : Operand) (ho : op.op = .load ty x) {p : Value} (hx : a.eval x = p) (h : (Instr.loadAt ty p).run Tryz.prog w = .ok v w) : (execOp a.eval op).run Tryz.prog w = .ok (.value v) w := by
  unfold execOp
  simp only [ho, hx, Sem.run_bind, Sem.run_pure, Result.andThen_ok, h]
theorem rcs_there {w : World} {b : Nat} {f : Nat → Nat} (h : Blk w b (rcs f) 65) : w.there b 0 16 := fun j hj => by
  rw [Nat.zero_add]
  refine ⟨?_, h.frozen j⟩
  rw [h.cell j]
  iterate 16 (rcases j with _ | j; · rfl)
  omega
set_option maxHeartbeats 4000000 in
set_option maxRecDepth 100000 in
theorem buildRuns_any (n a b : Nat) (less : Bool) (w : World) (hn : n < 256) (ha : a < 65536) (hb : b < 65536) : Calls Tryz.prog 6 #[.int .u8 n, .agg #[.int .u16 a, .int .u16 b], .bool less] w (RetW (.bool true) fun w' => Chg NoB w w') := by
  obtain ⟨k, hk⟩ : ∃ k, n % 20 = k := ⟨_, rfl⟩
  obtain ⟨x, hx⟩ : ∃ x, a % 40 = x := ⟨_, rfl⟩
  obtain ⟨y, hy⟩ : ∃ y, b % 40 = y := ⟨_, rfl⟩
  have q1 : IntKind.u8.wrap ((n : Int).tmod 20) = k := by rw [IntKind.wrap_u8, Int.tmod_eq_emod_of_nonneg (by omega), ← hk]; omega
  have q2 : IntKind.i64.wrap (k : Int) = k := IntWalk.i64_in _ (by omega)
  have qn : Hid ((n : Int) % 20 = k) := Lib.hid (by omega)
  have qa : Hid ((a : Int) % 40 = x) := Lib.hid (by omega)
  have qb : Hid ((b : Int) % 40 = y) := Lib.hid (by omega)
  have HK : Hid (k < 20) := Lib.hid (by omega)
  have HX : Hid (x < 40) := Lib.hid (by omega)
  have HY : Hid (y < 40) := Lib.hid (by omega)
  have hB4 := Blk.new w #[.int .u16 a, .int .u16 b] 71
  have hC4 := (Chg.refl NoB w).alloc (.cells #[.int .u16 a, .int .u16 b] 71)
  obtain ⟨b4, hb4⟩ : ∃ b, w.heap.size = b := ⟨_, rfl⟩
  have HB4 := Lib.hid hB4
  have HC4 := Lib.hid hC4
  clear hB4 hC4
  go_enter Tryz.func6, Tryz.ntmps6
  go_wp2_with fail
  generalize w.alloc (.cells #[.int .u16 a, .int .u16 b] 71) = w0 at *
  refine (first39_any _).mono ?_
  rintro e w1 ⟨rfl, C1⟩
  have HB1 := Lib.hid (C1.blk0 HB4.out)
  have HC1 := Lib.hid (HC4.out.step C1)
  clear C1 HB4 HC4
  rw [hb4] at HB1
  go_upto_region 3 with fail
  have x0 := HB1.out.cell' (i := 0) rfl
  have x1 := HB1.out.cell' (i := 1) rfl
  have xl := HB1.out.lt
  first
  | go_region_held3 (fun w' => w'.cell? ⟨b4, 0, none⟩ = some (.int .u16 a) ∧ w'.cell? ⟨b4, 1, none⟩ = some (.int .u16 b)) (exact ⟨by assumption, by assumption⟩) (fail)
  | fail "R3"
  have HC2 := Lib.hid HC1.out.drew
  generalize w1.drew = w2 at *
  clear x0 x1 xl HB1 HC1
  have HN3 : Hid (IsNew w2 (w2.alloc (.cells #[.int .i64 2, .int .i64 3, .int .i64 3, .int .i64 0, .int .i64 1] 40)) (.slice (some ⟨w2.heap.size, 0, none⟩) 1 1) addP) := Lib.hid (IsNew.fresh w2 addP [.int .i64 2, .int .i64 3, .int .i64 3, .int .i64 0, .int .i64 1] rfl 1 rfl (by omega))
  have HC3 := Lib.hid (HC2.out.alloc (.cells #[.int .i64 2, .int .i64 3, .int .i64 3, .int .i64 0, .int .i64 1] 40))
  obtain ⟨bs, hbs⟩ : ∃ b, w2.heap.size = b := ⟨_, rfl⟩
  rw [hbs] at HN3
  go_upto_region 6 with fail
  generalize w2.alloc (.cells #[.int .i64 2, .int .i64 3, .int .i64 3, .int .i64 0, .int .i64 1] 40) = w3 at *
  go_wp2_with fail
  rw [qn.out]
  refine (times_any 2 k _ addP _ HN3.out.at (by decide)).mono ?_
  rintro e w4 ⟨v4, rfl, N4⟩
  obtain ⟨c1, hc1, hr1, hp1, h12, h13⟩ := times_run HK.out
  have hrt := times_right HK.out
  have hln := times_len HK.out
  generalize timesF 2 k addP = l at *
  have HQ : Hid (Calls Tryz.prog 29 #[v4, .agg #[.int .u64 0, .int .u64 0, .int .u64 0, .int .u64 0, .int .u64 0, .int .u64 0, .int .u64 0, .int .u64 0, .int .u64 0, .int .u64 0, .int .u64 0, .int .u64 0, .int .u64 0, .int .u64 0, .int .u64 0, .int .u64 0], .int .i64 200] w4 (RetW (.tuple #[.agg (rcs c1.r), .bool true]) fun w' => Chg NoB w4 w')) := Lib.hid (prun_any l _ _ N4.1.sl hrt (by omega) (fun _ => 0) (fun _ => by decide) 200 (by omega) c1 hc1 hr1 hp1)
  obtain ⟨p4, k4, rfl, -⟩ := InsAt.of N4.1.sl (by omega)
  have H12 := Lib.hid h12
  have H13 := Lib.hid h13
  have HC4 := Lib.hid (HC3.out.step N4.2)
  have HN4 := Lib.hid (HN3.out.at.chg0 N4.2)
  clear N4 hc1 hr1 hp1 h12 h13 hrt hln HN3 HC3 HC2
  generalize c1.r = r1 at *
  go_wp2_with fail
  refine HQ.out.mono ?_
  rintro e w5 ⟨rfl, C5⟩
  have hB6 := Blk.new w5 (rcs r1) 65
  have HN6 := Lib.hid (HN4.out.chg0 (C5.alloc (.cells (rcs r1) 65)))
  have HC6 := Lib.hid ((HC4.out.step C5).alloc (.cells (rcs r1) 65))
  obtain ⟨b6, hb6⟩ : ∃ b, w5.heap.size = b := ⟨_, rfl⟩
  rw [hb6] at hB6
  have HB6 := Lib.hid hB6
  clear C5 HQ hB6 HN4 HC4
  simp only [rcs] at HB6 HN6 HC6 ⊢
  go_upto_region 7 with fail
  generalize w5.alloc (.cells #[.int .u64 (r1 0), .int .u64 (r1 1), .int .u64 (r1 2), .int .u64 (r1 3), .int .u64 (r1 4), .int .u64 (r1 5), .int .u64 (r1 6), .int .u64 (r1 7), .int .u64 (r1 8), .int .u64 (r1 9), .int .u64 (r1 10), .int .u64 (r1 11), .int .u64 (r1 12), .int .u64 (r1 13), .int .u64 (r1 14), .int .u64 (r1 15)] 65) = w6 at *
  have g3 : w6.cell? ⟨b6, 3, none⟩ = some (.int .u64 k) := by
    have := HB6.out.cell' (i := 3) rfl
    rw [H13.out] at this
    exact this
  have g2 : w6.cell? ⟨b6, 2, none⟩ = some (.int .u64 0) := by
    have := HB6.out.cell' (i := 2) rfl
    rw [H12.out] at this
    exact this
  have gl := HB6.out.lt
  have z1 : ((k : Int) != (k : Int)) = false := by simp
  have q5 : IntKind.u64.wrap (k : Int) = k := by rw [IntKind.wrap_u64]; have := HK.out; omega
  obtain ⟨b7, hb7⟩ : ∃ b, w6.heap.size = b := ⟨_, rfl⟩
  go_upto_region 9 with fail
  go_cut [13] from 31 to 59 (fun v wx => v = .pointer (some ⟨b7, 0, none⟩) ∧ Blk wx b7 (rcs (topR x y)) 65 ∧ Chg NoB w6 wx)
  case first =>
    go_wp2_with fail
    rw [qa.out, qb.out]
    go_meet
    exact ⟨rfl, hb7 ▸ Blk.new w6 #[.int .u64 0, .int .u64 0, .int .u64 0, .int .u64 0, .int .u64 x, .int .u64 y, .int .u64 0, .int .u64 0, .int .u64 0, .int .u64 0, .int .u64 0, .int .u64 0, .int .u64 0, .int .u64 0, .int .u64 0, .int .u64 0] 65, (Chg.refl NoB w6).alloc (.cells #[.int .u64 0, .int .u64 0, .int .u64 0, .int .u64 0, .int .u64 x, .int .u64 y, .int .u64 0, .int .u64 0, .int .u64 0, .int .u64 0, .int .u64 0, .int .u64 0, .int .u64 0, .int .u64 0, .int .u64 0, .int .u64 0] 65)⟩
  case rest =>
  obtain ⟨rfl, hB7, hC7⟩ := hcut
  rename World => w7
  have HB7 := Lib.hid hB7
  have HC7 := Lib.hid (HC6.out.step hC7)
  have HN7 := Lib.hid (HN6.out.chg0 hC7)
  clear g2 g3 gl z1 HB6 H12 H13 HC6 HN6 hB7 hC7 hb7
  go_upto_region 10 with fail
  have hld : ∀ w', Chg NoB w7 w' → (Instr.loadAt 65 (.pointer (some ⟨b7, 0, none⟩))).run Tryz.prog w' = .ok (.agg (rcs (topR x y))) w' := fun w' c => rcs_load (c.blk0 HB7.out)
  obtain ⟨c2, hc2, hr2, hp2, h23, h24⟩ := while_run HX.out HY.out
  have HRW := Lib.hid (And.intro hc2 (And.intro hr2 hp2))
  have H23 := Lib.hid h23
  have H24 := Lib.hid h24
  clear hc2 hr2 hp2 h23 h24
  go_cut [14, 15] from 60 to 71 (fun p o wx => ∃ b, p = .pointer (some ⟨b, 0, none⟩) ∧ o = .bool true ∧ Blk wx b (rcs c2.r) 65 ∧ Chg NoB w7 wx)
  case first =>
    have C0 : Chg NoB w7 w7.drew := (Chg.refl NoB w7).drew
    have HF : Hid True := Lib.hid trivial
    refine wp_region_float 13 11 [(true, 0), (true, 1), (true, 6), (false, 2), (false, 3), (false, 4), (false, 5), (false, 7), (true, 8), (true, 9), (true, 10)] [(false, 12)] (fun w' => Chg NoB w7 w') (by kernel_rfl) (by kernel_rfl) (fun _ _ _ _ _ h => h) (C0) ?_
    simp only [pickMix_nil, pickMix_cons, Option.getD_some, List.getElem?_toArray, List.getElem?_cons_zero, List.getElem?_cons_succ, List.cons_append, List.nil_append, List.drop_succ_cons, List.drop_zero]
    have HC := Lib.hid C0
    have HP := Lib.hid (HN7.out.chg0 C0)
    generalize w7.drew = W at *
    refine wpFloat_take rfl ?_
    apply Exists.intro
    refine ⟨fun wS hS => ?_, ?_⟩
    · try dsimp only at hS
      have cS := hS
      go_simp
      try rfl
    simp only [Act.put, List.setIfInBounds_toArray, List.set_cons_zero, List.set_cons_succ]
    refine wpFloat_take rfl ?_
    apply Exists.intro
    refine ⟨fun wS hS => ?_, ?_⟩
    · try dsimp only at hS
      have cS := hS
      go_simp
      try rfl
    simp only [Act.put, List.setIfInBounds_toArray, List.set_cons_zero, List.set_cons_succ]
    refine wpFloat_take rfl ?_
    apply Exists.intro
    refine ⟨fun wS hS => ?_, ?_⟩
    · try dsimp only at hS
      have cS := hS
      exact exec_load _ _ rfl rfl (hld wS cS)
    simp only [Act.put, List.setIfInBounds_toArray, List.set_cons_zero, List.set_cons_succ]
    refine wpFloat_fork rfl (fun K hK => ?_) (fun K hK => ?_)
    · go_simp
      have C1 := (Chg.refl NoB W).alloc (.cells #[.int .u64 0, .int .u64 0, .int .u64 0, .int .u64 0, .int .u64 0, .int .u64 0, .int .u64 0, .int .u64 0, .int .u64 0, .int .u64 0, .int .u64 0, .int .u64 0, .int .u64 0, .int .u64 0, .int .u64 0, .int .u64 0] 65)
      replace HF : Hid (Blk (W.alloc (.cells #[.int .u64 0, .int .u64 0, .int .u64 0, .int .u64 0, .int .u64 0, .int .u64 0, .int .u64 0, .int .u64 0, .int .u64 0, .int .u64 0, .int .u64 0, .int .u64 0, .int .u64 0, .int .u64 0, .int .u64 0, .int .u64 0] 65)) W.heap.size (rcs fun _ => 0) 65) := Lib.hid (Blk.new W #[.int .u64 0, .int .u64 0, .int .u64 0, .int .u64 0, .int .u64 0, .int .u64 0, .int .u64 0, .int .u64 0, .int .u64 0, .int .u64 0, .int .u64 0, .int .u64 0, .int .u64 0, .int .u64 0, .int .u64 0, .int .u64 0] 65)
      have HG : Hid (w7.heap.size ≤ W.heap.size) := Lib.hid HC.out.size
      (try (replace HC := Lib.hid (HC.out.step C1))); (try (replace HP := Lib.hid (HP.out.chg0 C1))); (try (replace H8 := Lib.hid (H8.out.chg0 C1))); (try (replace H9 := Lib.hid (H9.out.chg0 C1))); (try (replace HA := Lib.hid (HA.out.chg0 C1))); (try (replace HB := Lib.hid (HB.out.chg0 C1))); (try (replace HR := Lib.hid (HR.out.chg0 C1))); (try (replace HF := Lib.hid (Chg.blk0 C1 HF.out)))
      refine hK _ _ HC.out ?_
      clear hK K C1
      generalize W.alloc (.cells #[.int .u64 0, .int .u64 0, .int .u64 0, .int .u64 0, .int .u64 0, .int .u64 0, .int .u64 0, .int .u64 0, .int .u64 0, .int .u64 0, .int .u64 0, .int .u64 0, .int .u64 0, .int .u64 0, .int .u64 0, .int .u64 0] 65) = WN at *
      generalize W.heap.size = bF at *
      rename World => W
      try simp only [List.cons_append, List.nil_append]
      refine wpMix_force rfl (fun K hK => ?_)
      go_simp
      have C1 := (Chg.refl NoB W).alloc (.cells #[.int .i64 2, .int .i64 4, .int .i64 4, .int .i64 0, .int .i64 1] 40)
      (try (replace HC := Lib.hid (HC.out.step C1))); (try (replace HP := Lib.hid (HP.out.chg0 C1))); (try (replace H8 := Lib.hid (H8.out.chg0 C1))); (try (replace H9 := Lib.hid (H9.out.chg0 C1))); (try (replace HA := Lib.hid (HA.out.chg0 C1))); (try (replace HB := Lib.hid (HB.out.chg0 C1))); (try (replace HR := Lib.hid (HR.out.chg0 C1))); (try (replace HF := Lib.hid (Chg.blk0 C1 HF.out)))
      have HA : Hid (PAt (W.alloc (.cells #[.int .i64 2, .int .i64 4, .int .i64 4, .int .i64 0, .int .i64 1] 40)) (.slice (some ⟨W.heap.size, 0, none⟩) 1 1) [⟨2, 4, 4, 0, 1⟩]) := Lib.hid (IsNew.fresh W [⟨2, 4, 4, 0, 1⟩] [.int .i64 2, .int .i64 4, .int .i64 4, .int .i64 0, .int .i64 1] rfl 1 rfl (by omega)).at
      refine hK _ _ HC.out ?_
      clear hK K C1
      generalize W.alloc (.cells #[.int .i64 2, .int .i64 4, .int .i64 4, .int .i64 0, .int .i64 1] 40) = WN at *
      generalize W.heap.size = bA at *
      rename World => W
      refine wpMix_force rfl (fun K hK => ?_)
      go_simp
      have C1 := (Chg.refl NoB W).alloc (.cells #[.slice (some ⟨bs, 0, none⟩) 1 1, .slice (some ⟨bA, 0, none⟩) 1 1] 53)
      (try (replace HC := Lib.hid (HC.out.step C1))); (try (replace HP := Lib.hid (HP.out.chg0 C1))); (try (replace H8 := Lib.hid (H8.out.chg0 C1))); (try (replace H9 := Lib.hid (H9.out.chg0 C1))); (try (replace HA := Lib.hid (HA.out.chg0 C1))); (try (replace HB := Lib.hid (HB.out.chg0 C1))); (try (replace HR := Lib.hid (HR.out.chg0 C1))); (try (replace HF := Lib.hid (Chg.blk0 C1 HF.out)))
      have HB : Hid (Sl (W.alloc (.cells #[.slice (some ⟨bs, 0, none⟩) 1 1, .slice (some ⟨bA, 0, none⟩) 1 1] 53)) (fun k => k = W.heap.size) 1 (.slice (some ⟨W.heap.size, 0, none⟩) 2 2) 2 [.slice (some ⟨bs, 0, none⟩) 1 1, .slice (some ⟨bA, 0, none⟩) 1 1]) := Lib.hid (Sl.fresh W [.slice (some ⟨bs, 0, none⟩) 1 1, .slice (some ⟨bA, 0, none⟩) 1 1] 53 2 rfl)
      have HR := Lib.hid (HP.out.rows (HA.out.rows (PRows.nil _)))
      refine hK _ _ HC.out ?_
      clear hK K C1
      generalize W.alloc (.cells #[.slice (some ⟨bs, 0, none⟩) 1 1, .slice (some ⟨bA, 0, none⟩) 1 1] 53) = WN at *
      generalize W.heap.size = bB at *
      rename World => W
      refine wpMix_force rfl (fun K hK => ?_)
      go_simp
      refine (seq_any _ _ [.slice (some ⟨bs, 0, none⟩) 1 1, .slice (some ⟨bA, 0, none⟩) 1 1] [addP, [⟨2, 4, 4, 0, 1⟩]] _ HB.out HR.out (by simp) (by decide)).mono ?_
      rintro e WN ⟨v8, rfl, N8⟩
      have C1 := N8.2
      have H8 : Hid (PAt WN v8 twoP) := Lib.hid N8.at
      (try (replace HC := Lib.hid (HC.out.step C1))); (try (replace HP := Lib.hid (HP.out.chg0 C1))); (try (replace H8 := Lib.hid (H8.out.chg0 C1))); (try (replace H9 := Lib.hid (H9.out.chg0 C1))); (try (replace HA := Lib.hid (HA.out.chg0 C1))); (try (replace HB := Lib.hid (HB.out.chg0 C1))); (try (replace HR := Lib.hid (HR.out.chg0 C1))); (try (replace HF := Lib.hid (Chg.blk0 C1 HF.out)))
      refine hK _ _ HC.out ?_
      clear hK K C1 N8
      rename World => W
      refine wpMix_force rfl (fun K hK => ?_)
      go_simp
      refine (while_any 17 4 5 _ twoP _ H8.out (by decide)).mono ?_
      rintro e WN ⟨v9, rfl, N9⟩
      rw [whileQ_eq] at N9
      have C1 := N9.2
      have H9 := Lib.hid N9.1.sl
      (try (replace HC := Lib.hid (HC.out.step C1))); (try (replace HP := Lib.hid (HP.out.chg0 C1))); (try (replace H8 := Lib.hid (H8.out.chg0 C1))); (try (replace H9 := Lib.hid (H9.out.chg0 C1))); (try (replace HA := Lib.hid (HA.out.chg0 C1))); (try (replace HB := Lib.hid (HB.out.chg0 C1))); (try (replace HR := Lib.hid (HR.out.chg0 C1))); (try (replace HF := Lib.hid (Chg.blk0 C1 HF.out)))
      refine hK _ _ HC.out ?_
      clear hK K C1 N9
      rename World => W
      refine wpMix_force rfl (fun K hK => ?_)
      go_simp
      refine (prun_any whileQ _ _ H9.out whileQ_right (by decide) (topR x y) (topR_lt HX.out HY.out) 400 (by omega) c2 HRW.out.1 HRW.out.2.1 HRW.out.2.2).mono ?_
      rintro e WN ⟨rfl, C1⟩
      (try (replace HC := Lib.hid (HC.out.step C1))); (try (replace HP := Lib.hid (HP.out.chg0 C1))); (try (replace H8 := Lib.hid (H8.out.chg0 C1))); (try (replace H9 := Lib.hid (H9.out.chg0 C1))); (try (replace HA := Lib.hid (HA.out.chg0 C1))); (try (replace HB := Lib.hid (HB.out.chg0 C1))); (try (replace HR := Lib.hid (HR.out.chg0 C1))); (try (replace HF := Lib.hid (Chg.blk0 C1 HF.out)))
      refine hK _ _ HC.out ?_
      clear hK K C1
      rename World => W
      refine wpMix_take rfl ?_
      apply Exists.intro
      refine ⟨fun wS hS => ?_, ?_⟩
      · try dsimp only at hS
        have cS := hS
        go_simp
        try rfl
      simp only [Act.put, List.setIfInBounds_toArray, List.set_cons_zero, List.set_cons_succ]
      refine wpMix_take rfl ?_
      apply Exists.intro
      refine ⟨fun wS hS => ?_, ?_⟩
      · try dsimp only at hS
        have cS := hS
        go_simp
        try rfl
      simp only [Act.put, List.setIfInBounds_toArray, List.set_cons_zero, List.set_cons_succ]
      refine wpMix_take rfl ?_
      apply Exists.intro
      refine ⟨fun wS hS => ?_, ?_⟩
      · try dsimp only at hS
        have cS := hS
        go_simp
        try rfl
      simp only [Act.put, List.setIfInBounds_toArray, List.set_cons_zero, List.set_cons_succ]
      refine wpMix_force rfl (fun K hK => ?_)
      refine wp_store_mid _ _ _ rfl bF 0 (rcs c2.r) rfl rfl (rcs_there HF.out) arr_info (rcs_one _) ?_
      have HS := store_all HF.out (rcs c2.r).toList rfl
      have CS := HC.out.trans (S := NoB) HS.2 fun k hk e => by have e : k = bF := e; have := HG.out; omega
      refine hK _ _ CS ?_
      clear hK K
      refine wpMix_nil ?_
      go_wp2_with fail
      go_meet
      exact ⟨bF, rfl, rfl, HS.1, CS⟩
    · go_simp
      have C1 := (Chg.refl NoB W).alloc (.cells #[.int .i64 2, .int .i64 4, .int .i64 4, .int .i64 0, .int .i64 1] 40)
      (try (replace HC := Lib.hid (HC.out.step C1))); (try (replace HP := Lib.hid (HP.out.chg0 C1))); (try (replace H8 := Lib.hid (H8.out.chg0 C1))); (try (replace H9 := Lib.hid (H9.out.chg0 C1))); (try (replace HA := Lib.hid (HA.out.chg0 C1))); (try (replace HB := Lib.hid (HB.out.chg0 C1))); (try (replace HR := Lib.hid (HR.out.chg0 C1))); (try (replace HF := Lib.hid (Chg.blk0 C1 HF.out)))
      have HA : Hid (PAt (W.alloc (.cells #[.int .i64 2, .int .i64 4, .int .i64 4, .int .i64 0, .int .i64 1] 40)) (.slice (some ⟨W.heap.size, 0, none⟩) 1 1) [⟨2, 4, 4, 0, 1⟩]) := Lib.hid (IsNew.fresh W [⟨2, 4, 4, 0, 1⟩] [.int .i64 2, .int .i64 4, .int .i64 4, .int .i64 0, .int .i64 1] rfl 1 rfl (by omega)).at
      refine hK _ _ HC.out ?_
      clear hK K C1
      generalize W.alloc (.cells #[.int .i64 2, .int .i64 4, .int .i64 4, .int .i64 0, .int .i64 1] 40) = WN at *
      generalize W.heap.size = bA at *
      rename World => W
      refine wpFloat_fork rfl (fun K hK => ?_) (fun K hK => ?_)
      · go_simp
        have C1 := (Chg.refl NoB W).alloc (.cells #[.int .u64 0, .int .u64 0, .int .u64 0, .int .u64 0, .int .u64 0, .int .u64 0, .int .u64 0, .int .u64 0, .int .u64 0, .int .u64 0, .int .u64 0, .int .u64 0, .int .u64 0, .int .u64 0, .int .u64 0, .int .u64 0] 65)
        replace HF : Hid (Blk (W.alloc (.cells #[.int .u64 0, .int .u64 0, .int .u64 0, .int .u64 0, .int .u64 0, .int .u64 0, .int .u64 0, .int .u64 0, .int .u64 0, .int .u64 0, .int .u64 0, .int .u64 0, .int .u64 0, .int .u64 0, .int .u64 0, .int .u64 0] 65)) W.heap.size (rcs fun _ => 0) 65) := Lib.hid (Blk.new W #[.int .u64 0, .int .u64 0, .int .u64 0, .int .u64 0, .int .u64 0, .int .u64 0, .int .u64 0, .int .u64 0, .int .u64 0, .int .u64 0, .int .u64 0, .int .u64 0, .int .u64 0, .int .u64 0, .int .u64 0, .int .u64 0] 65)
        have HG : Hid (w7.heap.size ≤ W.heap.size) := Lib.hid HC.out.size
        (try (replace HC := Lib.hid (HC.out.step C1))); (try (replace HP := Lib.hid (HP.out.chg0 C1))); (try (replace H8 := Lib.hid (H8.out.chg0 C1))); (try (replace H9 := Lib.hid (H9.out.chg0 C1))); (try (replace HA := Lib.hid (HA.out.chg0 C1))); (try (replace HB := Lib.hid (HB.out.chg0 C1))); (try (replace HR := Lib.hid (HR.out.chg0 C1))); (try (replace HF := Lib.hid (Chg.blk0 C1 HF.out)))
        refine hK _ _ HC.out ?_
        clear hK K C1
        generalize W.alloc (.cells #[.int .u64 0, .int .u64 0, .int .u64 0, .int .u64 0, .int .u64 0, .int .u64 0, .int .u64 0, .int .u64 0, .int .u64 0, .int .u64 0, .int .u64 0, .int .u64 0, .int .u64 0, .int .u64 0, .int .u64 0, .int .u64 0] 65) = WN at *
        generalize W.heap.size = bF at *
        rename World => W
        try simp only [List.cons_append, List.nil_append]
        refine wpMix_force rfl (fun K hK => ?_)
        go_simp
        have C1 := (Chg.refl NoB W).alloc (.cells #[.slice (some ⟨bs, 0, none⟩) 1 1, .slice (some ⟨bA, 0, none⟩) 1 1] 53)
        (try (replace HC := Lib.hid (HC.out.step C1))); (try (replace HP := Lib.hid (HP.out.chg0 C1))); (try (replace H8 := Lib.hid (H8.out.chg0 C1))); (try (replace H9 := Lib.hid (H9.out.chg0 C1))); (try (replace HA := Lib.hid (HA.out.chg0 C1))); (try (replace HB := Lib.hid (HB.out.chg0 C1))); (try (replace HR := Lib.hid (HR.out.chg0 C1))); (try (replace HF := Lib.hid (Chg.blk0 C1 HF.out)))
        have HB : Hid (Sl (W.alloc (.cells #[.slice (some ⟨bs, 0, none⟩) 1 1, .slice (some ⟨bA, 0, none⟩) 1 1] 53)) (fun k => k = W.heap.size) 1 (.slice (some ⟨W.heap.size, 0, none⟩) 2 2) 2 [.slice (some ⟨bs, 0, none⟩) 1 1, .slice (some ⟨bA, 0, none⟩) 1 1]) := Lib.hid (Sl.fresh W [.slice (some ⟨bs, 0, none⟩) 1 1, .slice (some ⟨bA, 0, none⟩) 1 1] 53 2 rfl)
        have HR := Lib.hid (HP.out.rows (HA.out.rows (PRows.nil _)))
        refine hK _ _ HC.out ?_
        clear hK K C1
        generalize W.alloc (.cells #[.slice (some ⟨bs, 0, none⟩) 1 1, .slice (some ⟨bA, 0, none⟩) 1 1] 53) = WN at *
        generalize W.heap.size = bB at *
        rename World => W
        refine wpMix_force rfl (fun K hK => ?_)
        go_simp
        refine (seq_any _ _ [.slice (some ⟨bs, 0, none⟩) 1 1, .slice (some ⟨bA, 0, none⟩) 1 1] [addP, [⟨2, 4, 4, 0, 1⟩]] _ HB.out HR.out (by simp) (by decide)).mono ?_
        rintro e WN ⟨v8, rfl, N8⟩
        have C1 := N8.2
        have H8 : Hid (PAt WN v8 twoP) := Lib.hid N8.at
        (try (replace HC := Lib.hid (HC.out.step C1))); (try (replace HP := Lib.hid (HP.out.chg0 C1))); (try (replace H8 := Lib.hid (H8.out.chg0 C1))); (try (replace H9 := Lib.hid (H9.out.chg0 C1))); (try (replace HA := Lib.hid (HA.out.chg0 C1))); (try (replace HB := Lib.hid (HB.out.chg0 C1))); (try (replace HR := Lib.hid (HR.out.chg0 C1))); (try (replace HF := Lib.hid (Chg.blk0 C1 HF.out)))
        refine hK _ _ HC.out ?_
        clear hK K C1 N8
        rename World => W
        refine wpMix_force rfl (fun K hK => ?_)
        go_simp
        refine (while_any 17 4 5 _ twoP _ H8.out (by decide)).mono ?_
        rintro e WN ⟨v9, rfl, N9⟩
        rw [whileQ_eq] at N9
        have C1 := N9.2
        have H9 := Lib.hid N9.1.sl
        (try (replace HC := Lib.hid (HC.out.step C1))); (try (replace HP := Lib.hid (HP.out.chg0 C1))); (try (replace H8 := Lib.hid (H8.out.chg0 C1))); (try (replace H9 := Lib.hid (H9.out.chg0 C1))); (try (replace HA := Lib.hid (HA.out.chg0 C1))); (try (replace HB := Lib.hid (HB.out.chg0 C1))); (try (replace HR := Lib.hid (HR.out.chg0 C1))); (try (replace HF := Lib.hid (Chg.blk0 C1 HF.out)))
        refine hK _ _ HC.out ?_
        clear hK K C1 N9
        rename World => W
        refine wpMix_force rfl (fun K hK => ?_)
        go_simp
        refine (prun_any whileQ _ _ H9.out whileQ_right (by decide) (topR x y) (topR_lt HX.out HY.out) 400 (by omega) c2 HRW.out.1 HRW.out.2.1 HRW.out.2.2).mono ?_
        rintro e WN ⟨rfl, C1⟩
        (try (replace HC := Lib.hid (HC.out.step C1))); (try (replace HP := Lib.hid (HP.out.chg0 C1))); (try (replace H8 := Lib.hid (H8.out.chg0 C1))); (try (replace H9 := Lib.hid (H9.out.chg0 C1))); (try (replace HA := Lib.hid (HA.out.chg0 C1))); (try (replace HB := Lib.hid (HB.out.chg0 C1))); (try (replace HR := Lib.hid (HR.out.chg0 C1))); (try (replace HF := Lib.hid (Chg.blk0 C1 HF.out)))
        refine hK _ _ HC.out ?_
        clear hK K C1
        rename World => W
        refine wpMix_take rfl ?_
        apply Exists.intro
        refine ⟨fun wS hS => ?_, ?_⟩
        · try dsimp only at hS
          have cS := hS
          go_simp
          try rfl
        simp only [Act.put, List.setIfInBounds_toArray, List.set_cons_zero, List.set_cons_succ]
        refine wpMix_take rfl ?_
        apply Exists.intro
        refine ⟨fun wS hS => ?_, ?_⟩
        · try dsimp only at hS
          have cS := hS
          go_simp
          try rfl
        simp only [Act.put, List.setIfInBounds_toArray, List.set_cons_zero, List.set_cons_succ]
        refine wpMix_take rfl ?_
        apply Exists.intro
        refine ⟨fun wS hS => ?_, ?_⟩
        · try dsimp only at hS
          have cS := hS
          go_simp
          try rfl
        simp only [Act.put, List.setIfInBounds_toArray, List.set_cons_zero, List.set_cons_succ]
        refine wpMix_force rfl (fun K hK => ?_)
        refine wp_store_mid _ _ _ rfl bF 0 (rcs c2.r) rfl rfl (rcs_there HF.out) arr_info (rcs_one _) ?_
        have HS := store_all HF.out (rcs c2.r).toList rfl
        have CS := HC.out.trans (S := NoB) HS.2 fun k hk e => by have e : k = bF := e; have := HG.out; omega
        refine hK _ _ CS ?_
        clear hK K
        refine wpMix_nil ?_
        go_wp2_with fail
        go_meet
        exact ⟨bF, rfl, rfl, HS.1, CS⟩
      · go_simp
        have C1 := (Chg.refl NoB W).alloc (.cells #[.slice (some ⟨bs, 0, none⟩) 1 1, .slice (some ⟨bA, 0, none⟩) 1 1] 53)
        (try (replace HC := Lib.hid (HC.out.step C1))); (try (replace HP := Lib.hid (HP.out.chg0 C1))); (try (replace H8 := Lib.hid (H8.out.chg0 C1))); (try (replace H9 := Lib.hid (H9.out.chg0 C1))); (try (replace HA := Lib.hid (HA.out.chg0 C1))); (try (replace HB := Lib.hid (HB.out.chg0 C1))); (try (replace HR := Lib.hid (HR.out.chg0 C1))); (try (replace HF := Lib.hid (Chg.blk0 C1 HF.out)))
        have HB : Hid (Sl (W.alloc (.cells #[.slice (some ⟨bs, 0, none⟩) 1 1, .slice (some ⟨bA, 0, none⟩) 1 1] 53)) (fun k => k = W.heap.size) 1 (.slice (some ⟨W.heap.size, 0, none⟩) 2 2) 2 [.slice (some ⟨bs, 0, none⟩) 1 1, .slice (some ⟨bA, 0, none⟩) 1 1]) := Lib.hid (Sl.fresh W [.slice (some ⟨bs, 0, none⟩) 1 1, .slice (some ⟨bA, 0, none⟩) 1 1] 53 2 rfl)
        have HR := Lib.hid (HP.out.rows (HA.out.rows (PRows.nil _)))
        refine hK _ _ HC.out ?_
        clear hK K C1
        generalize W.alloc (.cells #[.slice (some ⟨bs, 0, none⟩) 1 1, .slice (some ⟨bA, 0, none⟩) 1 1] 53) = WN at *
        generalize W.heap.size = bB at *
        rename World => W
        refine wpFloat_fork rfl (fun K hK => ?_) (fun K hK => ?_)
        · go_simp
          have C1 := (Chg.refl NoB W).alloc (.cells #[.int .u64 0, .int .u64 0, .int .u64 0, .int .u64 0, .int .u64 0, .int .u64 0, .int .u64 0, .int .u64 0, .int .u64 0, .int .u64 0, .int .u64 0, .int .u64 0, .int .u64 0, .int .u64 0, .int .u64 0, .int .u64 0] 65)
          replace HF : Hid (Blk (W.alloc (.cells #[.int .u64 0, .int .u64 0, .int .u64 0, .int .u64 0, .int .u64 0, .int .u64 0, .int .u64 0, .int .u64 0, .int .u64 0, .int .u64 0, .int .u64 0, .int .u64 0, .int .u64 0, .int .u64 0, .int .u64 0, .int .u64 0] 65)) W.heap.size (rcs fun _ => 0) 65) := Lib.hid (Blk.new W #[.int .u64 0, .int .u64 0, .int .u64 0, .int .u64 0, .int .u64 0, .int .u64 0, .int .u64 0, .int .u64 0, .int .u64 0, .int .u64 0, .int .u64 0, .int .u64 0, .int .u64 0, .int .u64 0, .int .u64 0, .int .u64 0] 65)
          have HG : Hid (w7.heap.size ≤ W.heap.size) := Lib.hid HC.out.size
          (try (replace HC := Lib.hid (HC.out.step C1))); (try (replace HP := Lib.hid (HP.out.chg0 C1))); (try (replace H8 := Lib.hid (H8.out.chg0 C1))); (try (replace H9 := Lib.hid (H9.out.chg0 C1))); (try (replace HA := Lib.hid (HA.out.chg0 C1))); (try (replace HB := Lib.hid (HB.out.chg0 C1))); (try (replace HR := Lib.hid (HR.out.chg0 C1))); (try (replace HF := Lib.hid (Chg.blk0 C1 HF.out)))
          refine hK _ _ HC.out ?_
          clear hK K C1
          generalize W.alloc (.cells #[.int .u64 0, .int .u64 0, .int .u64 0, .int .u64 0, .int .u64 0, .int .u64 0, .int .u64 0, .int .u64 0, .int .u64 0, .int .u64 0, .int .u64 0, .int .u64 0, .int .u64 0, .int .u64 0, .int .u64 0, .int .u64 0] 65) = WN at *
          generalize W.heap.size = bF at *
          rename World => W
          try simp only [List.cons_append, List.nil_append]
          refine wpMix_force rfl (fun K hK => ?_)
          go_simp
          refine (seq_any _ _ [.slice (some ⟨bs, 0, none⟩) 1 1, .slice (some ⟨bA, 0, none⟩) 1 1] [addP, [⟨2, 4, 4, 0, 1⟩]] _ HB.out HR.out (by simp) (by decide)).mono ?_
          rintro e WN ⟨v8, rfl, N8⟩
          have C1 := N8.2
          have H8 : Hid (PAt WN v8 twoP) := Lib.hid N8.at
          (try (replace HC := Lib.hid (HC.out.step C1))); (try (replace HP := Lib.hid (HP.out.chg0 C1))); (try (replace H8 := Lib.hid (H8.out.chg0 C1))); (try (replace H9 := Lib.hid (H9.out.chg0 C1))); (try (replace HA := Lib.hid (HA.out.chg0 C1))); (try (replace HB := Lib.hid (HB.out.chg0 C1))); (try (replace HR := Lib.hid (HR.out.chg0 C1))); (try (replace HF := Lib.hid (Chg.blk0 C1 HF.out)))
          refine hK _ _ HC.out ?_
          clear hK K C1 N8
          rename World => W
          refine wpMix_force rfl (fun K hK => ?_)
          go_simp
          refine (while_any 17 4 5 _ twoP _ H8.out (by decide)).mono ?_
          rintro e WN ⟨v9, rfl, N9⟩
          rw [whileQ_eq] at N9
          have C1 := N9.2
          have H9 := Lib.hid N9.1.sl
          (try (replace HC := Lib.hid (HC.out.step C1))); (try (replace HP := Lib.hid (HP.out.chg0 C1))); (try (replace H8 := Lib.hid (H8.out.chg0 C1))); (try (replace H9 := Lib.hid (H9.out.chg0 C1))); (try (replace HA := Lib.hid (HA.out.chg0 C1))); (try (replace HB := Lib.hid (HB.out.chg0 C1))); (try (replace HR := Lib.hid (HR.out.chg0 C1))); (try (replace HF := Lib.hid (Chg.blk0 C1 HF.out)))
          refine hK _ _ HC.out ?_
          clear hK K C1 N9
          rename World => W
          refine wpMix_force rfl (fun K hK => ?_)
          go_simp
          refine (prun_any whileQ _ _ H9.out whileQ_right (by decide) (topR x y) (topR_lt HX.out HY.out) 400 (by omega) c2 HRW.out.1 HRW.out.2.1 HRW.out.2.2).mono ?_
          rintro e WN ⟨rfl, C1⟩
          (try (replace HC := Lib.hid (HC.out.step C1))); (try (replace HP := Lib.hid (HP.out.chg0 C1))); (try (replace H8 := Lib.hid (H8.out.chg0 C1))); (try (replace H9 := Lib.hid (H9.out.chg0 C1))); (try (replace HA := Lib.hid (HA.out.chg0 C1))); (try (replace HB := Lib.hid (HB.out.chg0 C1))); (try (replace HR := Lib.hid (HR.out.chg0 C1))); (try (replace HF := Lib.hid (Chg.blk0 C1 HF.out)))
          refine hK _ _ HC.out ?_
          clear hK K C1
          rename World => W
          refine wpMix_take rfl ?_
          apply Exists.intro
          refine ⟨fun wS hS => ?_, ?_⟩
          · try dsimp only at hS
            have cS := hS
            go_simp
            try rfl
          simp only [Act.put, List.setIfInBounds_toArray, List.set_cons_zero, List.set_cons_succ]
          refine wpMix_take rfl ?_
          apply Exists.intro
          refine ⟨fun wS hS => ?_, ?_⟩
          · try dsimp only at hS
            have cS := hS
            go_simp
            try rfl
          simp only [Act.put, List.setIfInBounds_toArray, List.set_cons_zero, List.set_cons_succ]
          refine wpMix_take rfl ?_
          apply Exists.intro
          refine ⟨fun wS hS => ?_, ?_⟩
          · try dsimp only at hS
            have cS := hS
            go_simp
            try rfl
          simp only [Act.put, List.setIfInBounds_toArray, List.set_cons_zero, List.set_cons_succ]
          refine wpMix_force rfl (fun K hK => ?_)
          refine wp_store_mid _ _ _ rfl bF 0 (rcs c2.r) rfl rfl (rcs_there HF.out) arr_info (rcs_one _) ?_
          have HS := store_all HF.out (rcs c2.r).toList rfl
          have CS := HC.out.trans (S := NoB) HS.2 fun k hk e => by have e : k = bF := e; have := HG.out; omega
          refine hK _ _ CS ?_
          clear hK K
          refine wpMix_nil ?_
          go_wp2_with fail
          go_meet
          exact ⟨bF, rfl, rfl, HS.1, CS⟩
        · go_simp
          refine (seq_any _ _ [.slice (some ⟨bs, 0, none⟩) 1 1, .slice (some ⟨bA, 0, none⟩) 1 1] [addP, [⟨2, 4, 4, 0, 1⟩]] _ HB.out HR.out (by simp) (by decide)).mono ?_
          rintro e WN ⟨v8, rfl, N8⟩
          have C1 := N8.2
          have H8 : Hid (PAt WN v8 twoP) := Lib.hid N8.at
          (try (replace HC := Lib.hid (HC.out.step C1))); (try (replace HP := Lib.hid (HP.out.chg0 C1))); (try (replace H8 := Lib.hid (H8.out.chg0 C1))); (try (replace H9 := Lib.hid (H9.out.chg0 C1))); (try (replace HA := Lib.hid (HA.out.chg0 C1))); (try (replace HB := Lib.hid (HB.out.chg0 C1))); (try (replace HR := Lib.hid (HR.out.chg0 C1))); (try (replace HF := Lib.hid (Chg.blk0 C1 HF.out)))
          refine hK _ _ HC.out ?_
          clear hK K C1 N8
          rename World => W
          refine wpFloat_fork rfl (fun K hK => ?_) (fun K hK => ?_)
          · go_simp
            have C1 := (Chg.refl NoB W).alloc (.cells #[.int .u64 0, .int .u64 0, .int .u64 0, .int .u64 0, .int .u64 0, .int .u64 0, .int .u64 0, .int .u64 0, .int .u64 0, .int .u64 0, .int .u64 0, .int .u64 0, .int .u64 0, .int .u64 0, .int .u64 0, .int .u64 0] 65)
            replace HF : Hid (Blk (W.alloc (.cells #[.int .u64 0, .int .u64 0, .int .u64 0, .int .u64 0, .int .u64 0, .int .u64 0, .int .u64 0, .int .u64 0, .int .u64 0, .int .u64 0, .int .u64 0, .int .u64 0, .int .u64 0, .int .u64 0, .int .u64 0, .int .u64 0] 65)) W.heap.size (rcs fun _ => 0) 65) := Lib.hid (Blk.new W #[.int .u64 0, .int .u64 0, .int .u64 0, .int .u64 0, .int .u64 0, .int .u64 0, .int .u64 0, .int .u64 0, .int .u64 0, .int .u64 0, .int .u64 0, .int .u64 0, .int .u64 0, .int .u64 0, .int .u64 0, .int .u64 0] 65)
            have HG : Hid (w7.heap.size ≤ W.heap.size) := Lib.hid HC.out.size
            (try (replace HC := Lib.hid (HC.out.step C1))); (try (replace HP := Lib.hid (HP.out.chg0 C1))); (try (replace H8 := Lib.hid (H8.out.chg0 C1))); (try (replace H9 := Lib.hid (H9.out.chg0 C1))); (try (replace HA := Lib.hid (HA.out.chg0 C1))); (try (replace HB := Lib.hid (HB.out.chg0 C1))); (try (replace HR := Lib.hid (HR.out.chg0 C1))); (try (replace HF := Lib.hid (Chg.blk0 C1 HF.out)))
            refine hK _ _ HC.out ?_
            clear hK K C1
            generalize W.alloc (.cells #[.int .u64 0, .int .u64 0, .int .u64 0, .int .u64 0, .int .u64 0, .int .u64 0, .int .u64 0, .int .u64 0, .int .u64 0, .int .u64 0, .int .u64 0, .int .u64 0, .int .u64 0, .int .u64 0, .int .u64 0, .int .u64 0] 65) = WN at *
            generalize W.heap.size = bF at *
            rename World => W
            try simp only [List.cons_append, List.nil_append]
            refine wpMix_force rfl (fun K hK => ?_)
            go_simp
            refine (while_any 17 4 5 _ twoP _ H8.out (by decide)).mono ?_
            rintro e WN ⟨v9, rfl, N9⟩
            rw [whileQ_eq] at N9
            have C1 := N9.2
            have H9 := Lib.hid N9.1.sl
            (try (replace HC := Lib.hid (HC.out.step C1))); (try (replace HP := Lib.hid (HP.out.chg0 C1))); (try (replace H8 := Lib.hid (H8.out.chg0 C1))); (try (replace H9 := Lib.hid (H9.out.chg0 C1))); (try (replace HA := Lib.hid (HA.out.chg0 C1))); (try (replace HB := Lib.hid (HB.out.chg0 C1))); (try (replace HR := Lib.hid (HR.out.chg0 C1))); (try (replace HF := Lib.hid (Chg.blk0 C1 HF.out)))
            refine hK _ _ HC.out ?_
            clear hK K C1 N9
            rename World => W
            refine wpMix_force rfl (fun K hK => ?_)
            go_simp
            refine (prun_any whileQ _ _ H9.out whileQ_right (by decide) (topR x y) (topR_lt HX.out HY.out) 400 (by omega) c2 HRW.out.1 HRW.out.2.1 HRW.out.2.2).mono ?_
            rintro e WN ⟨rfl, C1⟩
            (try (replace HC := Lib.hid (HC.out.step C1))); (try (replace HP := Lib.hid (HP.out.chg0 C1))); (try (replace H8 := Lib.hid (H8.out.chg0 C1))); (try (replace H9 := Lib.hid (H9.out.chg0 C1))); (try (replace HA := Lib.hid (HA.out.chg0 C1))); (try (replace HB := Lib.hid (HB.out.chg0 C1))); (try (replace HR := Lib.hid (HR.out.chg0 C1))); (try (replace HF := Lib.hid (Chg.blk0 C1 HF.out)))
            refine hK _ _ HC.out ?_
            clear hK K C1
            rename World => W
            refine wpMix_take rfl ?_
            apply Exists.intro
            refine ⟨fun wS hS => ?_, ?_⟩
            · try dsimp only at hS
              have cS := hS
              go_simp
              try rfl
            simp only [Act.put, List.setIfInBounds_toArray, List.set_cons_zero, List.set_cons_succ]
            refine wpMix_take rfl ?_
            apply Exists.intro
            refine ⟨fun wS hS => ?_, ?_⟩
            · try dsimp only at hS
              have cS := hS
              go_simp
              try rfl
            simp only [Act.put, List.setIfInBounds_toArray, List.set_cons_zero, List.set_cons_succ]
            refine wpMix_take rfl ?_
            apply Exists.intro
            refine ⟨fun wS hS => ?_, ?_⟩
            · try dsimp only at hS
              have cS := hS
              go_simp
              try rfl
            simp only [Act.put, List.setIfInBounds_toArray, List.set_cons_zero, List.set_cons_succ]
            refine wpMix_force rfl (fun K hK => ?_)
            refine wp_store_mid _ _ _ rfl bF 0 (rcs c2.r) rfl rfl (rcs_there HF.out) arr_info (rcs_one _) ?_
            have HS := store_all HF.out (rcs c2.r).toList rfl
            have CS := HC.out.trans (S := NoB) HS.2 fun k hk e => by have e : k = bF := e; have := HG.out; omega
            refine hK _ _ CS ?_
            clear hK K
            refine wpMix_nil ?_
            go_wp2_with fail
            go_meet
            exact ⟨bF, rfl, rfl, HS.1, CS⟩
          · go_simp
            refine (while_any 17 4 5 _ twoP _ H8.out (by decide)).mono ?_
            rintro e WN ⟨v9, rfl, N9⟩
            rw [whileQ_eq] at N9
            have C1 := N9.2
            have H9 := Lib.hid N9.1.sl
            (try (replace HC := Lib.hid (HC.out.step C1))); (try (replace HP := Lib.hid (HP.out.chg0 C1))); (try (replace H8 := Lib.hid (H8.out.chg0 C1))); (try (replace H9 := Lib.hid (H9.out.chg0 C1))); (try (replace HA := Lib.hid (HA.out.chg0 C1))); (try (replace HB := Lib.hid (HB.out.chg0 C1))); (try (replace HR := Lib.hid (HR.out.chg0 C1))); (try (replace HF := Lib.hid (Chg.blk0 C1 HF.out)))
            refine hK _ _ HC.out ?_
            clear hK K C1 N9
            rename World => W
            refine wpFloat_fork rfl (fun K hK => ?_) (fun K hK => ?_)
            · go_simp
              have C1 := (Chg.refl NoB W).alloc (.cells #[.int .u64 0, .int .u64 0, .int .u64 0, .int .u64 0, .int .u64 0, .int .u64 0, .int .u64 0, .int .u64 0, .int .u64 0, .int .u64 0, .int .u64 0, .int .u64 0, .int .u64 0, .int .u64 0, .int .u64 0, .int .u64 0] 65)
              replace HF : Hid (Blk (W.alloc (.cells #[.int .u64 0, .int .u64 0, .int .u64 0, .int .u64 0, .int .u64 0, .int .u64 0, .int .u64 0, .int .u64 0, .int .u64 0, .int .u64 0, .int .u64 0, .int .u64 0, .int .u64 0, .int .u64 0, .int .u64 0, .int .u64 0] 65)) W.heap.size (rcs fun _ => 0) 65) := Lib.hid (Blk.new W #[.int .u64 0, .int .u64 0, .int .u64 0, .int .u64 0, .int .u64 0, .int .u64 0, .int .u64 0, .int .u64 0, .int .u64 0, .int .u64 0, .int .u64 0, .int .u64 0, .int .u64 0, .int .u64 0, .int .u64 0, .int .u64 0] 65)
              have HG : Hid (w7.heap.size ≤ W.heap.size) := Lib.hid HC.out.size
              (try (replace HC := Lib.hid (HC.out.step C1))); (try (replace HP := Lib.hid (HP.out.chg0 C1))); (try (replace H8 := Lib.hid (H8.out.chg0 C1))); (try (replace H9 := Lib.hid (H9.out.chg0 C1))); (try (replace HA := Lib.hid (HA.out.chg0 C1))); (try (replace HB := Lib.hid (HB.out.chg0 C1))); (try (replace HR := Lib.hid (HR.out.chg0 C1))); (try (replace HF := Lib.hid (Chg.blk0 C1 HF.out)))
              refine hK _ _ HC.out ?_
              clear hK K C1
              generalize W.alloc (.cells #[.int .u64 0, .int .u64 0, .int .u64 0, .int .u64 0, .int .u64 0, .int .u64 0, .int .u64 0, .int .u64 0, .int .u64 0, .int .u64 0, .int .u64 0, .int .u64 0, .int .u64 0, .int .u64 0, .int .u64 0, .int .u64 0] 65) = WN at *
              generalize W.heap.size = bF at *
              rename World => W
              try simp only [List.cons_append, List.nil_append]
              refine wpMix_force rfl (fun K hK => ?_)
              go_simp
              refine (prun_any whileQ _ _ H9.out whileQ_right (by decide) (topR x y) (topR_lt HX.out HY.out) 400 (by omega) c2 HRW.out.1 HRW.out.2.1 HRW.out.2.2).mono ?_
              rintro e WN ⟨rfl, C1⟩
              (try (replace HC := Lib.hid (HC.out.step C1))); (try (replace HP := Lib.hid (HP.out.chg0 C1))); (try (replace H8 := Lib.hid (H8.out.chg0 C1))); (try (replace H9 := Lib.hid (H9.out.chg0 C1))); (try (replace HA := Lib.hid (HA.out.chg0 C1))); (try (replace HB := Lib.hid (HB.out.chg0 C1))); (try (replace HR := Lib.hid (HR.out.chg0 C1))); (try (replace HF := Lib.hid (Chg.blk0 C1 HF.out)))
              refine hK _ _ HC.out ?_
              clear hK K C1
              rename World => W
              refine wpMix_take rfl ?_
              apply Exists.intro
              refine ⟨fun wS hS => ?_, ?_⟩
              · try dsimp only at hS
                have cS := hS
                go_simp
                try rfl
              simp only [Act.put, List.setIfInBounds_toArray, List.set_cons_zero, List.set_cons_succ]
              refine wpMix_take rfl ?_
              apply Exists.intro
              refine ⟨fun wS hS => ?_, ?_⟩
              · try dsimp only at hS
                have cS := hS
                go_simp
                try rfl
              simp only [Act.put, List.setIfInBounds_toArray, List.set_cons_zero, List.set_cons_succ]
              refine wpMix_take rfl ?_
              apply Exists.intro
              refine ⟨fun wS hS => ?_, ?_⟩
              · try dsimp only at hS
                have cS := hS
                go_simp
                try rfl
              simp only [Act.put, List.setIfInBounds_toArray, List.set_cons_zero, List.set_cons_succ]
              refine wpMix_force rfl (fun K hK => ?_)
              refine wp_store_mid _ _ _ rfl bF 0 (rcs c2.r) rfl rfl (rcs_there HF.out) arr_info (rcs_one _) ?_
              have HS := store_all HF.out (rcs c2.r).toList rfl
              have CS := HC.out.trans (S := NoB) HS.2 fun k hk e => by have e : k = bF := e; have := HG.out; omega
              refine hK _ _ CS ?_
              clear hK K
              refine wpMix_nil ?_
              go_wp2_with fail
              go_meet
              exact ⟨bF, rfl, rfl, HS.1, CS⟩
            · go_simp
              refine (prun_any whileQ _ _ H9.out whileQ_right (by decide) (topR x y) (topR_lt HX.out HY.out) 400 (by omega) c2 HRW.out.1 HRW.out.2.1 HRW.out.2.2).mono ?_
              rintro e WN ⟨rfl, C1⟩
              (try (replace HC := Lib.hid (HC.out.step C1))); (try (replace HP := Lib.hid (HP.out.chg0 C1))); (try (replace H8 := Lib.hid (H8.out.chg0 C1))); (try (replace H9 := Lib.hid (H9.out.chg0 C1))); (try (replace HA := Lib.hid (HA.out.chg0 C1))); (try (replace HB := Lib.hid (HB.out.chg0 C1))); (try (replace HR := Lib.hid (HR.out.chg0 C1))); (try (replace HF := Lib.hid (Chg.blk0 C1 HF.out)))
              refine hK _ _ HC.out ?_
              clear hK K C1
              rename World => W
              refine wpFloat_take rfl ?_
              apply Exists.intro
              refine ⟨fun wS hS => ?_, ?_⟩
              · try dsimp only at hS
                have cS := hS
                go_simp
                try rfl
              simp only [Act.put, List.setIfInBounds_toArray, List.set_cons_zero, List.set_cons_succ]
              refine wpFloat_take rfl ?_
              apply Exists.intro
              refine ⟨fun wS hS => ?_, ?_⟩
              · try dsimp only at hS
                have cS := hS
                go_simp
                try rfl
              simp only [Act.put, List.setIfInBounds_toArray, List.set_cons_zero, List.set_cons_succ]
              refine wpFloat_take rfl ?_
              apply Exists.intro
              refine ⟨fun wS hS => ?_, ?_⟩
              · try dsimp only at hS
                have cS := hS
                go_simp
                try rfl
              simp only [Act.put, List.setIfInBounds_toArray, List.set_cons_zero, List.set_cons_succ]
              refine wpFloat_nil (fun K hK => ?_)
              go_simp
              have C1 := (Chg.refl NoB W).alloc (.cells #[.int .u64 0, .int .u64 0, .int .u64 0, .int .u64 0, .int .u64 0, .int .u64 0, .int .u64 0, .int .u64 0, .int .u64 0, .int .u64 0, .int .u64 0, .int .u64 0, .int .u64 0, .int .u64 0, .int .u64 0, .int .u64 0] 65)
              replace HF : Hid (Blk (W.alloc (.cells #[.int .u64 0, .int .u64 0, .int .u64 0, .int .u64 0, .int .u64 0, .int .u64 0, .int .u64 0, .int .u64 0, .int .u64 0, .int .u64 0, .int .u64 0, .int .u64 0, .int .u64 0, .int .u64 0, .int .u64 0, .int .u64 0] 65)) W.heap.size (rcs fun _ => 0) 65) := Lib.hid (Blk.new W #[.int .u64 0, .int .u64 0, .int .u64 0, .int .u64 0, .int .u64 0, .int .u64 0, .int .u64 0, .int .u64 0, .int .u64 0, .int .u64 0, .int .u64 0, .int .u64 0, .int .u64 0, .int .u64 0, .int .u64 0, .int .u64 0] 65)
              have HG : Hid (w7.heap.size ≤ W.heap.size) := Lib.hid HC.out.size
              (try (replace HC := Lib.hid (HC.out.step C1))); (try (replace HP := Lib.hid (HP.out.chg0 C1))); (try (replace H8 := Lib.hid (H8.out.chg0 C1))); (try (replace H9 := Lib.hid (H9.out.chg0 C1))); (try (replace HA := Lib.hid (HA.out.chg0 C1))); (try (replace HB := Lib.hid (HB.out.chg0 C1))); (try (replace HR := Lib.hid (HR.out.chg0 C1))); (try (replace HF := Lib.hid (Chg.blk0 C1 HF.out)))
              refine hK _ _ HC.out ?_
              clear hK K C1
              generalize W.alloc (.cells #[.int .u64 0, .int .u64 0, .int .u64 0, .int .u64 0, .int .u64 0, .int .u64 0, .int .u64 0, .int .u64 0, .int .u64 0, .int .u64 0, .int .u64 0, .int .u64 0, .int .u64 0, .int .u64 0, .int .u64 0, .int .u64 0] 65) = WN at *
              generalize W.heap.size = bF at *
              rename World => W
              refine wpMix_force rfl (fun K hK => ?_)
              refine wp_store_mid _ _ _ rfl bF 0 (rcs c2.r) rfl rfl (rcs_there HF.out) arr_info (rcs_one _) ?_
              have HS := store_all HF.out (rcs c2.r).toList rfl
              have CS := HC.out.trans (S := NoB) HS.2 fun k hk e => by have e : k = bF := e; have := HG.out; omega
              refine hK _ _ CS ?_
              clear hK K
              refine wpMix_nil ?_
              go_wp2_with fail
              go_meet
              exact ⟨bF, rfl, rfl, HS.1, CS⟩
  case rest =>
    obtain ⟨b8, rfl, rfl, hB8, hC8⟩ := hcut
    rename World => w8
    have HB8 := Lib.hid hB8
    have HC8 := Lib.hid (HC7.out.step hC8)
    have HT8 := Lib.hid (hC8.blk0 HB7.out)
    clear hB8 hC8 hld HB7 HC7 HN7 HRW
    go_upto_region 11 with fail
    go_cut [96] from 71 to 97 (fun v wx => v = .bool false ∧ wx = w8)
    case first =>
      have el := HB8.out.lt
      have tl := HT8.out.lt
      have t4 : w8.cell? ⟨b7, 4, none⟩ = some (.int .u64 x) := HT8.out.cell' (rcs_at (topR x y) (n := 4) (by omega))
      have t5 : w8.cell? ⟨b7, 5, none⟩ = some (.int .u64 y) := HT8.out.cell' (rcs_at (topR x y) (n := 5) (by omega))
      have q2 := qa.out
      have q3 := qb.out
      by_cases hxy : x < y
      · have e3 : w8.cell? ⟨b8, 3, none⟩ = some (.int .u64 ((y : Int) - x)) := by
          have := HB8.out.cell' (rcs_at c2.r (n := 3) (by omega))
          rw [H23.out, show ((y - x : Nat) : Int) = (y : Int) - x by omega] at this
          exact this
        have e4 : w8.cell? ⟨b8, 4, none⟩ = some (.int .u64 y) := by
          have := HB8.out.cell' (rcs_at c2.r (n := 4) (by omega))
          rw [H24.out, Nat.max_eq_right (by omega)] at this
          exact this
        go_wp2_with fail
        go_meet
        exact ⟨rfl, rfl⟩
      · have e3 : w8.cell? ⟨b8, 3, none⟩ = some (.int .u64 0) := by
          have := HB8.out.cell' (rcs_at c2.r (n := 3) (by omega))
          rw [H23.out, show y - x = 0 by omega] at this
          exact this
        have e4 : w8.cell? ⟨b8, 4, none⟩ = some (.int .u64 x) := by
          have := HB8.out.cell' (rcs_at c2.r (n := 4) (by omega))
          rw [H24.out, Nat.max_eq_left (by omega)] at this
          exact this
        go_wp2_with fail
        go_meet
        exact ⟨rfl, rfl⟩
    case rest =>
      obtain ⟨rfl, rfl⟩ := hcut
      rename World => w8
      go_upto_if 97 with fail
      go_cut [16] (fun v wx => v = .int .i64 (if less = true then 17 else 15) ∧ wx = w8)
      case first =>
        cases less with
        | true =>
          go_wp2_with fail
          go_meet
          exact ⟨rfl, rfl⟩
        | false =>
          go_wp2_with fail
          go_meet
          exact ⟨rfl, rfl⟩
      case rest =>
        obtain ⟨rfl, rfl⟩ := hcut
        rename World => w8
        obtain ⟨o, ho⟩ : ∃ o : Int, (if less = true then (17 : Int) else 15) = o := ⟨_, rfl⟩
        rw [ho]
        have hoo : o = 15 ∨ o = 17 := by cases less <;> simp at ho <;> omega
        have HO := Lib.hid ho
        have HOO := Lib.hid hoo
        clear ho hoo
        obtain ⟨c3, hc3, hr3, hp3, h36⟩ := if_run HOO.out HX.out HY.out
        have HRI := Lib.hid (And.intro hc3 (And.intro hr3 hp3))
        have H36 := Lib.hid h36
        clear hc3 hr3 hp3 h36
        go_upto_region 16 with fail
        go_cut [17, 18] from 98 to 107 (fun p o wx => ∃ b, p = .pointer (some ⟨b, 0, none⟩) ∧ o = .bool true ∧ Blk wx b (rcs c3.r) 65 ∧ Chg NoB w8 wx)
        case first =>
          have hld : ∀ w', Chg NoB w8 w' → (Instr.loadAt 65 (.pointer (some ⟨b7, 0, none⟩))).run Tryz.prog w' = .ok (.agg (rcs (topR x y))) w' := fun w' c => rcs_load (c.blk0 HT8.out)
          have C0 : Chg NoB w8 w8.drew := (Chg.refl NoB w8).drew
          have HF : Hid True := Lib.hid trivial
          refine wp_region_float 11 9 [(true, 0), (true, 4), (false, 1), (false, 2), (false, 3), (false, 5), (true, 6), (true, 7), (true, 8)] [(false, 10)] (fun w' => Chg NoB w8 w') (by kernel_rfl) (by kernel_rfl) (fun _ _ _ _ _ h => h) (C0) ?_
          simp only [pickMix_nil, pickMix_cons, Option.getD_some, List.getElem?_toArray, List.getElem?_cons_zero, List.getElem?_cons_succ, List.cons_append, List.nil_append, List.drop_succ_cons, List.drop_zero]
          have HC := Lib.hid C0
          generalize w8.drew = W at *
          refine wpFloat_take rfl ?_
          apply Exists.intro
          refine ⟨fun wS hS => ?_, ?_⟩
          · try dsimp only at hS
            have cS := hS
            go_simp
            try rfl
          simp only [Act.put, List.setIfInBounds_toArray, List.set_cons_zero, List.set_cons_succ]
          refine wpFloat_take rfl ?_
          apply Exists.intro
          refine ⟨fun wS hS => ?_, ?_⟩
          · try dsimp only at hS
            have cS := hS
            exact exec_load _ _ rfl rfl (hld wS cS)
          simp only [Act.put, List.setIfInBounds_toArray, List.set_cons_zero, List.set_cons_succ]
          refine wpFloat_fork rfl (fun K hK => ?_) (fun K hK => ?_)
          · go_simp
            have C1 := (Chg.refl NoB W).alloc (.cells #[.int .u64 0, .int .u64 0, .int .u64 0, .int .u64 0, .int .u64 0, .int .u64 0, .int .u64 0, .int .u64 0, .int .u64 0, .int .u64 0, .int .u64 0, .int .u64 0, .int .u64 0, .int .u64 0, .int .u64 0, .int .u64 0] 65)
            replace HF : Hid (Blk (W.alloc (.cells #[.int .u64 0, .int .u64 0, .int .u64 0, .int .u64 0, .int .u64 0, .int .u64 0, .int .u64 0, .int .u64 0, .int .u64 0, .int .u64 0, .int .u64 0, .int .u64 0, .int .u64 0, .int .u64 0, .int .u64 0, .int .u64 0] 65)) W.heap.size (rcs fun _ => 0) 65) := Lib.hid (Blk.new W #[.int .u64 0, .int .u64 0, .int .u64 0, .int .u64 0, .int .u64 0, .int .u64 0, .int .u64 0, .int .u64 0, .int .u64 0, .int .u64 0, .int .u64 0, .int .u64 0, .int .u64 0, .int .u64 0, .int .u64 0, .int .u64 0] 65)
            have HG : Hid (w8.heap.size ≤ W.heap.size) := Lib.hid HC.out.size
            (try (replace HC := Lib.hid (HC.out.step C1))); (try (replace HP := Lib.hid (HP.out.chg0 C1))); (try (replace H8 := Lib.hid (H8.out.chg0 C1))); (try (replace H9 := Lib.hid (H9.out.chg0 C1))); (try (replace HA := Lib.hid (HA.out.chg0 C1))); (try (replace HB := Lib.hid (HB.out.chg0 C1))); (try (replace HR := Lib.hid (HR.out.chg0 C1))); (try (replace HF := Lib.hid (Chg.blk0 C1 HF.out)))
            refine hK _ _ HC.out ?_
            clear hK K C1
            generalize W.alloc (.cells #[.int .u64 0, .int .u64 0, .int .u64 0, .int .u64 0, .int .u64 0, .int .u64 0, .int .u64 0, .int .u64 0, .int .u64 0, .int .u64 0, .int .u64 0, .int .u64 0, .int .u64 0, .int .u64 0, .int .u64 0, .int .u64 0] 65) = WN at *
            generalize W.heap.size = bF at *
            rename World => W
            try simp only [List.cons_append, List.nil_append]
            refine wpMix_force rfl (fun K hK => ?_)
            go_simp
            refine (const_any 6 1 W (by omega) (by unfold U64; omega)).mono ?_
            rintro e WN ⟨v1, rfl, N1⟩
            rw [show constF 6 (sgn 1) = conP 1 from (congrArg (constF 6) (by decide : sgn 1 = 1)).trans con_eq.1] at N1
            have C1 := N1.2
            (try (replace HC := Lib.hid (HC.out.step C1))); (try (replace HP := Lib.hid (HP.out.chg0 C1))); (try (replace H8 := Lib.hid (H8.out.chg0 C1))); (try (replace H9 := Lib.hid (H9.out.chg0 C1))); (try (replace HA := Lib.hid (HA.out.chg0 C1))); (try (replace HB := Lib.hid (HB.out.chg0 C1))); (try (replace HR := Lib.hid (HR.out.chg0 C1))); (try (replace HF := Lib.hid (Chg.blk0 C1 HF.out)))
            have H8 : Hid (PAt WN v1 (conP 1)) := Lib.hid N1.at
            refine hK _ _ HC.out ?_
            clear hK K C1 N1
            rename World => W
            refine wpMix_force rfl (fun K hK => ?_)
            go_simp
            refine (const_any 6 2 W (by omega) (by unfold U64; omega)).mono ?_
            rintro e WN ⟨v2, rfl, N1⟩
            rw [show constF 6 (sgn 2) = conP 2 from (congrArg (constF 6) (by decide : sgn 2 = 2)).trans con_eq.2] at N1
            have C1 := N1.2
            (try (replace HC := Lib.hid (HC.out.step C1))); (try (replace HP := Lib.hid (HP.out.chg0 C1))); (try (replace H8 := Lib.hid (H8.out.chg0 C1))); (try (replace H9 := Lib.hid (H9.out.chg0 C1))); (try (replace HA := Lib.hid (HA.out.chg0 C1))); (try (replace HB := Lib.hid (HB.out.chg0 C1))); (try (replace HR := Lib.hid (HR.out.chg0 C1))); (try (replace HF := Lib.hid (Chg.blk0 C1 HF.out)))
            have HA : Hid (PAt WN v2 (conP 2)) := Lib.hid N1.at
            refine hK _ _ HC.out ?_
            clear hK K C1 N1
            rename World => W
            refine wpMix_force rfl (fun K hK => ?_)
            go_simp
            refine (if_any o 4 5 _ _ (conP 1) (conP 2) _ H8.out (by decide) HA.out (by decide)).mono ?_
            rintro e WN ⟨v9, rfl, N9⟩
            rw [ifQ_eq HOO.out] at N9
            have C1 := N9.2
            have H9 := Lib.hid N9.1.sl
            (try (replace HC := Lib.hid (HC.out.step C1))); (try (replace HP := Lib.hid (HP.out.chg0 C1))); (try (replace H8 := Lib.hid (H8.out.chg0 C1))); (try (replace H9 := Lib.hid (H9.out.chg0 C1))); (try (replace HA := Lib.hid (HA.out.chg0 C1))); (try (replace HB := Lib.hid (HB.out.chg0 C1))); (try (replace HR := Lib.hid (HR.out.chg0 C1))); (try (replace HF := Lib.hid (Chg.blk0 C1 HF.out)))
            refine hK _ _ HC.out ?_
            clear hK K C1 N9
            rename World => W
            refine wpMix_force rfl (fun K hK => ?_)
            go_simp
            refine (prun_any (ifQ o) _ _ H9.out (ifQ_right HOO.out) (by show 4 ≤ 999; omega) (topR x y) (topR_lt HX.out HY.out) 50 (by omega) c3 HRI.out.1 HRI.out.2.1 HRI.out.2.2).mono ?_
            rintro e WN ⟨rfl, C1⟩
            (try (replace HC := Lib.hid (HC.out.step C1))); (try (replace HP := Lib.hid (HP.out.chg0 C1))); (try (replace H8 := Lib.hid (H8.out.chg0 C1))); (try (replace H9 := Lib.hid (H9.out.chg0 C1))); (try (replace HA := Lib.hid (HA.out.chg0 C1))); (try (replace HB := Lib.hid (HB.out.chg0 C1))); (try (replace HR := Lib.hid (HR.out.chg0 C1))); (try (replace HF := Lib.hid (Chg.blk0 C1 HF.out)))
            refine hK _ _ HC.out ?_
            clear hK K C1
            rename World => W
            refine wpMix_take rfl ?_
            apply Exists.intro
            refine ⟨fun wS hS => ?_, ?_⟩
            · try dsimp only at hS
              have cS := hS
              go_simp
              try rfl
            simp only [Act.put, List.setIfInBounds_toArray, List.set_cons_zero, List.set_cons_succ]
            refine wpMix_take rfl ?_
            apply Exists.intro
            refine ⟨fun wS hS => ?_, ?_⟩
            · try dsimp only at hS
              have cS := hS
              go_simp
              try rfl
            simp only [Act.put, List.setIfInBounds_toArray, List.set_cons_zero, List.set_cons_succ]
            refine wpMix_take rfl ?_
            apply Exists.intro
            refine ⟨fun wS hS => ?_, ?_⟩
            · try dsimp only at hS
              have cS := hS
              go_simp
              try rfl
            simp only [Act.put, List.setIfInBounds_toArray, List.set_cons_zero, List.set_cons_succ]
            refine wpMix_force rfl (fun K hK => ?_)
            refine wp_store_mid _ _ _ rfl bF 0 (rcs c3.r) rfl rfl (rcs_there HF.out) arr_info (rcs_one _) ?_
            have HS := store_all HF.out (rcs c3.r).toList rfl
            have CS := HC.out.trans (S := NoB) HS.2 fun k hk e => by have e : k = bF := e; have := HG.out; omega
            refine hK _ _ CS ?_
            clear hK K
            refine wpMix_nil ?_
            go_wp2_with fail
            go_meet
            exact ⟨bF, rfl, rfl, HS.1, CS⟩
          · go_simp
            refine (const_any 6 1 W (by omega) (by unfold U64; omega)).mono ?_
            rintro e WN ⟨v1, rfl, N1⟩
            rw [show constF 6 (sgn 1) = conP 1 from (congrArg (constF 6) (by decide : sgn 1 = 1)).trans con_eq.1] at N1
            have C1 := N1.2
            (try (replace HC := Lib.hid (HC.out.step C1))); (try (replace HP := Lib.hid (HP.out.chg0 C1))); (try (replace H8 := Lib.hid (H8.out.chg0 C1))); (try (replace H9 := Lib.hid (H9.out.chg0 C1))); (try (replace HA := Lib.hid (HA.out.chg0 C1))); (try (replace HB := Lib.hid (HB.out.chg0 C1))); (try (replace HR := Lib.hid (HR.out.chg0 C1))); (try (replace HF := Lib.hid (Chg.blk0 C1 HF.out)))
            have H8 : Hid (PAt WN v1 (conP 1)) := Lib.hid N1.at
            refine hK _ _ HC.out ?_
            clear hK K C1 N1
            rename World => W
            refine wpFloat_fork rfl (fun K hK => ?_) (fun K hK => ?_)
            · go_simp
              have C1 := (Chg.refl NoB W).alloc (.cells #[.int .u64 0, .int .u64 0, .int .u64 0, .int .u64 0, .int .u64 0, .int .u64 0, .int .u64 0, .int .u64 0, .int .u64 0, .int .u64 0, .int .u64 0, .int .u64 0, .int .u64 0, .int .u64 0, .int .u64 0, .int .u64 0] 65)
              replace HF : Hid (Blk (W.alloc (.cells #[.int .u64 0, .int .u64 0, .int .u64 0, .int .u64 0, .int .u64 0, .int .u64 0, .int .u64 0, .int .u64 0, .int .u64 0, .int .u64 0, .int .u64 0, .int .u64 0, .int .u64 0, .int .u64 0, .int .u64 0, .int .u64 0] 65)) W.heap.size (rcs fun _ => 0) 65) := Lib.hid (Blk.new W #[.int .u64 0, .int .u64 0, .int .u64 0, .int .u64 0, .int .u64 0, .int .u64 0, .int .u64 0, .int .u64 0, .int .u64 0, .int .u64 0, .int .u64 0, .int .u64 0, .int .u64 0, .int .u64 0, .int .u64 0, .int .u64 0] 65)
              have HG : Hid (w8.heap.size ≤ W.heap.size) := Lib.hid HC.out.size
              (try (replace HC := Lib.hid (HC.out.step C1))); (try (replace HP := Lib.hid (HP.out.chg0 C1))); (try (replace H8 := Lib.hid (H8.out.chg0 C1))); (try (replace H9 := Lib.hid (H9.out.chg0 C1))); (try (replace HA := Lib.hid (HA.out.chg0 C1))); (try (replace HB := Lib.hid (HB.out.chg0 C1))); (try (replace HR := Lib.hid (HR.out.chg0 C1))); (try (replace HF := Lib.hid (Chg.blk0 C1 HF.out)))
              refine hK _ _ HC.out ?_
              clear hK K C1
              generalize W.alloc (.cells #[.int .u64 0, .int .u64 0, .int .u64 0, .int .u64 0, .int .u64 0, .int .u64 0, .int .u64 0, .int .u64 0, .int .u64 0, .int .u64 0, .int .u64 0, .int .u64 0, .int .u64 0, .int .u64 0, .int .u64 0, .int .u64 0] 65) = WN at *
              generalize W.heap.size = bF at *
              rename World => W
              try simp only [List.cons_append, List.nil_append]
              refine wpMix_force rfl (fun K hK => ?_)
              go_simp
              refine (const_any 6 2 W (by omega) (by unfold U64; omega)).mono ?_
              rintro e WN ⟨v2, rfl, N1⟩
              rw [show constF 6 (sgn 2) = conP 2 from (congrArg (constF 6) (by decide : sgn 2 = 2)).trans con_eq.2] at N1
              have C1 := N1.2
              (try (replace HC := Lib.hid (HC.out.step C1))); (try (replace HP := Lib.hid (HP.out.chg0 C1))); (try (replace H8 := Lib.hid (H8.out.chg0 C1))); (try (replace H9 := Lib.hid (H9.out.chg0 C1))); (try (replace HA := Lib.hid (HA.out.chg0 C1))); (try (replace HB := Lib.hid (HB.out.chg0 C1))); (try (replace HR := Lib.hid (HR.out.chg0 C1))); (try (replace HF := Lib.hid (Chg.blk0 C1 HF.out)))
              have HA : Hid (PAt WN v2 (conP 2)) := Lib.hid N1.at
              refine hK _ _ HC.out ?_
              clear hK K C1 N1
              rename World => W
              refine wpMix_force rfl (fun K hK => ?_)
              go_simp
              refine (if_any o 4 5 _ _ (conP 1) (conP 2) _ H8.out (by decide) HA.out (by decide)).mono ?_
              rintro e WN ⟨v9, rfl, N9⟩
              rw [ifQ_eq HOO.out] at N9
              have C1 := N9.2
              have H9 := Lib.hid N9.1.sl
              (try (replace HC := Lib.hid (HC.out.step C1))); (try (replace HP := Lib.hid (HP.out.chg0 C1))); (try (replace H8 := Lib.hid (H8.out.chg0 C1))); (try (replace H9 := Lib.hid (H9.out.chg0 C1))); (try (replace HA := Lib.hid (HA.out.chg0 C1))); (try (replace HB := Lib.hid (HB.out.chg0 C1))); (try (replace HR := Lib.hid (HR.out.chg0 C1))); (try (replace HF := Lib.hid (Chg.blk0 C1 HF.out)))
              refine hK _ _ HC.out ?_
              clear hK K C1 N9
              rename World => W
              refine wpMix_force rfl (fun K hK => ?_)
              go_simp
              refine (prun_any (ifQ o) _ _ H9.out (ifQ_right HOO.out) (by show 4 ≤ 999; omega) (topR x y) (topR_lt HX.out HY.out) 50 (by omega) c3 HRI.out.1 HRI.out.2.1 HRI.out.2.2).mono ?_
              rintro e WN ⟨rfl, C1⟩
              (try (replace HC := Lib.hid (HC.out.step C1))); (try (replace HP := Lib.hid (HP.out.chg0 C1))); (try (replace H8 := Lib.hid (H8.out.chg0 C1))); (try (replace H9 := Lib.hid (H9.out.chg0 C1))); (try (replace HA := Lib.hid (HA.out.chg0 C1))); (try (replace HB := Lib.hid (HB.out.chg0 C1))); (try (replace HR := Lib.hid (HR.out.chg0 C1))); (try (replace HF := Lib.hid (Chg.blk0 C1 HF.out)))
              refine hK _ _ HC.out ?_
              clear hK K C1
              rename World => W
              refine wpMix_take rfl ?_
              apply Exists.intro
              refine ⟨fun wS hS => ?_, ?_⟩
              · try dsimp only at hS
                have cS := hS
                go_simp
                try rfl
              simp only [Act.put, List.setIfInBounds_toArray, List.set_cons_zero, List.set_cons_succ]
              refine wpMix_take rfl ?_
              apply Exists.intro
              refine ⟨fun wS hS => ?_, ?_⟩
              · try dsimp only at hS
                have cS := hS
                go_simp
                try rfl
              simp only [Act.put, List.setIfInBounds_toArray, List.set_cons_zero, List.set_cons_succ]
              refine wpMix_take rfl ?_
              apply Exists.intro
              refine ⟨fun wS hS => ?_, ?_⟩
              · try dsimp only at hS
                have cS := hS
                go_simp
                try rfl
              simp only [Act.put, List.setIfInBounds_toArray, List.set_cons_zero, List.set_cons_succ]
              refine wpMix_force rfl (fun K hK => ?_)
              refine wp_store_mid _ _ _ rfl bF 0 (rcs c3.r) rfl rfl (rcs_there HF.out) arr_info (rcs_one _) ?_
              have HS := store_all HF.out (rcs c3.r).toList rfl
              have CS := HC.out.trans (S := NoB) HS.2 fun k hk e => by have e : k = bF := e; have := HG.out; omega
              refine hK _ _ CS ?_
              clear hK K
              refine wpMix_nil ?_
              go_wp2_with fail
              go_meet
              exact ⟨bF, rfl, rfl, HS.1, CS⟩
            · go_simp
              refine (const_any 6 2 W (by omega) (by unfold U64; omega)).mono ?_
              rintro e WN ⟨v2, rfl, N1⟩
              rw [show constF 6 (sgn 2) = conP 2 from (congrArg (constF 6) (by decide : sgn 2 = 2)).trans con_eq.2] at N1
              have C1 := N1.2
              (try (replace HC := Lib.hid (HC.out.step C1))); (try (replace HP := Lib.hid (HP.out.chg0 C1))); (try (replace H8 := Lib.hid (H8.out.chg0 C1))); (try (replace H9 := Lib.hid (H9.out.chg0 C1))); (try (replace HA := Lib.hid (HA.out.chg0 C1))); (try (replace HB := Lib.hid (HB.out.chg0 C1))); (try (replace HR := Lib.hid (HR.out.chg0 C1))); (try (replace HF := Lib.hid (Chg.blk0 C1 HF.out)))
              have HA : Hid (PAt WN v2 (conP 2)) := Lib.hid N1.at
              refine hK _ _ HC.out ?_
              clear hK K C1 N1
              rename World => W
              refine wpFloat_fork rfl (fun K hK => ?_) (fun K hK => ?_)
              · go_simp
                have C1 := (Chg.refl NoB W).alloc (.cells #[.int .u64 0, .int .u64 0, .int .u64 0, .int .u64 0, .int .u64 0, .int .u64 0, .int .u64 0, .int .u64 0, .int .u64 0, .int .u64 0, .int .u64 0, .int .u64 0, .int .u64 0, .int .u64 0, .int .u64 0, .int .u64 0] 65)
                replace HF : Hid (Blk (W.alloc (.cells #[.int .u64 0, .int .u64 0, .int .u64 0, .int .u64 0, .int .u64 0, .int .u64 0, .int .u64 0, .int .u64 0, .int .u64 0, .int .u64 0, .int .u64 0, .int .u64 0, .int .u64 0, .int .u64 0, .int .u64 0, .int .u64 0] 65)) W.heap.size (rcs fun _ => 0) 65) := Lib.hid (Blk.new W #[.int .u64 0, .int .u64 0, .int .u64 0, .int .u64 0, .int .u64 0, .int .u64 0, .int .u64 0, .int .u64 0, .int .u64 0, .int .u64 0, .int .u64 0, .int .u64 0, .int .u64 0, .int .u64 0, .int .u64 0, .int .u64 0] 65)
                have HG : Hid (w8.heap.size ≤ W.heap.size) := Lib.hid HC.out.size
                (try (replace HC := Lib.hid (HC.out.step C1))); (try (replace HP := Lib.hid (HP.out.chg0 C1))); (try (replace H8 := Lib.hid (H8.out.chg0 C1))); (try (replace H9 := Lib.hid (H9.out.chg0 C1))); (try (replace HA := Lib.hid (HA.out.chg0 C1))); (try (replace HB := Lib.hid (HB.out.chg0 C1))); (try (replace HR := Lib.hid (HR.out.chg0 C1))); (try (replace HF := Lib.hid (Chg.blk0 C1 HF.out)))
                refine hK _ _ HC.out ?_
                clear hK K C1
                generalize W.alloc (.cells #[.int .u64 0, .int .u64 0, .int .u64 0, .int .u64 0, .int .u64 0, .int .u64 0, .int .u64 0, .int .u64 0, .int .u64 0, .int .u64 0, .int .u64 0, .int .u64 0, .int .u64 0, .int .u64 0, .int .u64 0, .int .u64 0] 65) = WN at *
                generalize W.heap.size = bF at *
                rename World => W
                try simp only [List.cons_append, List.nil_append]
                refine wpMix_force rfl (fun K hK => ?_)
                go_simp
                refine (if_any o 4 5 _ _ (conP 1) (conP 2) _ H8.out (by decide) HA.out (by decide)).mono ?_
                rintro e WN ⟨v9, rfl, N9⟩
                rw [ifQ_eq HOO.out] at N9
                have C1 := N9.2
                have H9 := Lib.hid N9.1.sl
                (try (replace HC := Lib.hid (HC.out.step C1))); (try (replace HP := Lib.hid (HP.out.chg0 C1))); (try (replace H8 := Lib.hid (H8.out.chg0 C1))); (try (replace H9 := Lib.hid (H9.out.chg0 C1))); (try (replace HA := Lib.hid (HA.out.chg0 C1))); (try (replace HB := Lib.hid (HB.out.chg0 C1))); (try (replace HR := Lib.hid (HR.out.chg0 C1))); (try (replace HF := Lib.hid (Chg.blk0 C1 HF.out)))
                refine hK _ _ HC.out ?_
                clear hK K C1 N9
                rename World => W
                refine wpMix_force rfl (fun K hK => ?_)
                go_simp
                refine (prun_any (ifQ o) _ _ H9.out (ifQ_right HOO.out) (by show 4 ≤ 999; omega) (topR x y) (topR_lt HX.out HY.out) 50 (by omega) c3 HRI.out.1 HRI.out.2.1 HRI.out.2.2).mono ?_
                rintro e WN ⟨rfl, C1⟩
                (try (replace HC := Lib.hid (HC.out.step C1))); (try (replace HP := Lib.hid (HP.out.chg0 C1))); (try (replace H8 := Lib.hid (H8.out.chg0 C1))); (try (replace H9 := Lib.hid (H9.out.chg0 C1))); (try (replace HA := Lib.hid (HA.out.chg0 C1))); (try (replace HB := Lib.hid (HB.out.chg0 C1))); (try (replace HR := Lib.hid (HR.out.chg0 C1))); (try (replace HF := Lib.hid (Chg.blk0 C1 HF.out)))
                refine hK _ _ HC.out ?_
                clear hK K C1
                rename World => W
                refine wpMix_take rfl ?_
                apply Exists.intro
                refine ⟨fun wS hS => ?_, ?_⟩
                · try dsimp only at hS
                  have cS := hS
                  go_simp
                  try rfl
                simp only [Act.put, List.setIfInBounds_toArray, List.set_cons_zero, List.set_cons_succ]
                refine wpMix_take rfl ?_
                apply Exists.intro
                refine ⟨fun wS hS => ?_, ?_⟩
                · try dsimp only at hS
                  have cS := hS
                  go_simp
                  try rfl
                simp only [Act.put, List.setIfInBounds_toArray, List.set_cons_zero, List.set_cons_succ]
                refine wpMix_take rfl ?_
                apply Exists.intro
                refine ⟨fun wS hS => ?_, ?_⟩
                · try dsimp only at hS
                  have cS := hS
                  go_simp
                  try rfl
                simp only [Act.put, List.setIfInBounds_toArray, List.set_cons_zero, List.set_cons_succ]
                refine wpMix_force rfl (fun K hK => ?_)
                refine wp_store_mid _ _ _ rfl bF 0 (rcs c3.r) rfl rfl (rcs_there HF.out) arr_info (rcs_one _) ?_
                have HS := store_all HF.out (rcs c3.r).toList rfl
                have CS := HC.out.trans (S := NoB) HS.2 fun k hk e => by have e : k = bF := e; have := HG.out; omega
                refine hK _ _ CS ?_
                clear hK K
                refine wpMix_nil ?_
                go_wp2_with fail
                go_meet
                exact ⟨bF, rfl, rfl, HS.1, CS⟩
              · go_simp
                refine (if_any o 4 5 _ _ (conP 1) (conP 2) _ H8.out (by decide) HA.out (by decide)).mono ?_
                rintro e WN ⟨v9, rfl, N9⟩
                rw [ifQ_eq HOO.out] at N9
                have C1 := N9.2
                have H9 := Lib.hid N9.1.sl
                (try (replace HC := Lib.hid (HC.out.step C1))); (try (replace HP := Lib.hid (HP.out.chg0 C1))); (try (replace H8 := Lib.hid (H8.out.chg0 C1))); (try (replace H9 := Lib.hid (H9.out.chg0 C1))); (try (replace HA := Lib.hid (HA.out.chg0 C1))); (try (replace HB := Lib.hid (HB.out.chg0 C1))); (try (replace HR := Lib.hid (HR.out.chg0 C1))); (try (replace HF := Lib.hid (Chg.blk0 C1 HF.out)))
                refine hK _ _ HC.out ?_
                clear hK K C1 N9
                rename World => W
                refine wpFloat_fork rfl (fun K hK => ?_) (fun K hK => ?_)
                · go_simp
                  have C1 := (Chg.refl NoB W).alloc (.cells #[.int .u64 0, .int .u64 0, .int .u64 0, .int .u64 0, .int .u64 0, .int .u64 0, .int .u64 0, .int .u64 0, .int .u64 0, .int .u64 0, .int .u64 0, .int .u64 0, .int .u64 0, .int .u64 0, .int .u64 0, .int .u64 0] 65)
                  replace HF : Hid (Blk (W.alloc (.cells #[.int .u64 0, .int .u64 0, .int .u64 0, .int .u64 0, .int .u64 0, .int .u64 0, .int .u64 0, .int .u64 0, .int .u64 0, .int .u64 0, .int .u64 0, .int .u64 0, .int .u64 0, .int .u64 0, .int .u64 0, .int .u64 0] 65)) W.heap.size (rcs fun _ => 0) 65) := Lib.hid (Blk.new W #[.int .u64 0, .int .u64 0, .int .u64 0, .int .u64 0, .int .u64 0, .int .u64 0, .int .u64 0, .int .u64 0, .int .u64 0, .int .u64 0, .int .u64 0, .int .u64 0, .int .u64 0, .int .u64 0, .int .u64 0, .int .u64 0] 65)
                  have HG : Hid (w8.heap.size ≤ W.heap.size) := Lib.hid HC.out.size
                  (try (replace HC := Lib.hid (HC.out.step C1))); (try (replace HP := Lib.hid (HP.out.chg0 C1))); (try (replace H8 := Lib.hid (H8.out.chg0 C1))); (try (replace H9 := Lib.hid (H9.out.chg0 C1))); (try (replace HA := Lib.hid (HA.out.chg0 C1))); (try (replace HB := Lib.hid (HB.out.chg0 C1))); (try (replace HR := Lib.hid (HR.out.chg0 C1))); (try (replace HF := Lib.hid (Chg.blk0 C1 HF.out)))
                  refine hK _ _ HC.out ?_
                  clear hK K C1
                  generalize W.alloc (.cells #[.int .u64 0, .int .u64 0, .int .u64 0, .int .u64 0, .int .u64 0, .int .u64 0, .int .u64 0, .int .u64 0, .int .u64 0, .int .u64 0, .int .u64 0, .int .u64 0, .int .u64 0, .int .u64 0, .int .u64 0, .int .u64 0] 65) = WN at *
                  generalize W.heap.size = bF at *
                  rename World => W
                  try simp only [List.cons_append, List.nil_append]
                  refine wpMix_force rfl (fun K hK => ?_)
                  go_simp
                  refine (prun_any (ifQ o) _ _ H9.out (ifQ_right HOO.out) (by show 4 ≤ 999; omega) (topR x y) (topR_lt HX.out HY.out) 50 (by omega) c3 HRI.out.1 HRI.out.2.1 HRI.out.2.2).mono ?_
                  rintro e WN ⟨rfl, C1⟩
                  (try (replace HC := Lib.hid (HC.out.step C1))); (try (replace HP := Lib.hid (HP.out.chg0 C1))); (try (replace H8 := Lib.hid (H8.out.chg0 C1))); (try (replace H9 := Lib.hid (H9.out.chg0 C1))); (try (replace HA := Lib.hid (HA.out.chg0 C1))); (try (replace HB := Lib.hid (HB.out.chg0 C1))); (try (replace HR := Lib.hid (HR.out.chg0 C1))); (try (replace HF := Lib.hid (Chg.blk0 C1 HF.out)))
                  refine hK _ _ HC.out ?_
                  clear hK K C1
                  rename World => W
                  refine wpMix_take rfl ?_
                  apply Exists.intro
                  refine ⟨fun wS hS => ?_, ?_⟩
                  · try dsimp only at hS
                    have cS := hS
                    go_simp
                    try rfl
                  simp only [Act.put, List.setIfInBounds_toArray, List.set_cons_zero, List.set_cons_succ]
                  refine wpMix_take rfl ?_
                  apply Exists.intro
                  refine ⟨fun wS hS => ?_, ?_⟩
                  · try dsimp only at hS
                    have cS := hS
                    go_simp
                    try rfl
                  simp only [Act.put, List.setIfInBounds_toArray, List.set_cons_zero, List.set_cons_succ]
                  refine wpMix_take rfl ?_
                  apply Exists.intro
                  refine ⟨fun wS hS => ?_, ?_⟩
                  · try dsimp only at hS
                    have cS := hS
                    go_simp
                    try rfl
                  simp only [Act.put, List.setIfInBounds_toArray, List.set_cons_zero, List.set_cons_succ]
                  refine wpMix_force rfl (fun K hK => ?_)
                  refine wp_store_mid _ _ _ rfl bF 0 (rcs c3.r) rfl rfl (rcs_there HF.out) arr_info (rcs_one _) ?_
                  have HS := store_all HF.out (rcs c3.r).toList rfl
                  have CS := HC.out.trans (S := NoB) HS.2 fun k hk e => by have e : k = bF := e; have := HG.out; omega
                  refine hK _ _ CS ?_
                  clear hK K
                  refine wpMix_nil ?_
                  go_wp2_with fail
                  go_meet
                  exact ⟨bF, rfl, rfl, HS.1, CS⟩
                · go_simp
                  refine (prun_any (ifQ o) _ _ H9.out (ifQ_right HOO.out) (by show 4 ≤ 999; omega) (topR x y) (topR_lt HX.out HY.out) 50 (by omega) c3 HRI.out.1 HRI.out.2.1 HRI.out.2.2).mono ?_
                  rintro e WN ⟨rfl, C1⟩
                  (try (replace HC := Lib.hid (HC.out.step C1))); (try (replace HP := Lib.hid (HP.out.chg0 C1))); (try (replace H8 := Lib.hid (H8.out.chg0 C1))); (try (replace H9 := Lib.hid (H9.out.chg0 C1))); (try (replace HA := Lib.hid (HA.out.chg0 C1))); (try (replace HB := Lib.hid (HB.out.chg0 C1))); (try (replace HR := Lib.hid (HR.out.chg0 C1))); (try (replace HF := Lib.hid (Chg.blk0 C1 HF.out)))
                  refine hK _ _ HC.out ?_
                  clear hK K C1
                  rename World => W
                  refine wpFloat_take rfl ?_
                  apply Exists.intro
                  refine ⟨fun wS hS => ?_, ?_⟩
                  · try dsimp only at hS
                    have cS := hS
                    go_simp
                    try rfl
                  simp only [Act.put, List.setIfInBounds_toArray, List.set_cons_zero, List.set_cons_succ]
                  refine wpFloat_take rfl ?_
                  apply Exists.intro
                  refine ⟨fun wS hS => ?_, ?_⟩
                  · try dsimp only at hS
                    have cS := hS
                    go_simp
                    try rfl
                  simp only [Act.put, List.setIfInBounds_toArray, List.set_cons_zero, List.set_cons_succ]
                  refine wpFloat_take rfl ?_
                  apply Exists.intro
                  refine ⟨fun wS hS => ?_, ?_⟩
                  · try dsimp only at hS
                    have cS := hS
                    go_simp
                    try rfl
                  simp only [Act.put, List.setIfInBounds_toArray, List.set_cons_zero, List.set_cons_succ]
                  refine wpFloat_nil (fun K hK => ?_)
                  go_simp
                  have C1 := (Chg.refl NoB W).alloc (.cells #[.int .u64 0, .int .u64 0, .int .u64 0, .int .u64 0, .int .u64 0, .int .u64 0, .int .u64 0, .int .u64 0, .int .u64 0, .int .u64 0, .int .u64 0, .int .u64 0, .int .u64 0, .int .u64 0, .int .u64 0, .int .u64 0] 65)
                  replace HF : Hid (Blk (W.alloc (.cells #[.int .u64 0, .int .u64 0, .int .u64 0, .int .u64 0, .int .u64 0, .int .u64 0, .int .u64 0, .int .u64 0, .int .u64 0, .int .u64 0, .int .u64 0, .int .u64 0, .int .u64 0, .int .u64 0, .int .u64 0, .int .u64 0] 65)) W.heap.size (rcs fun _ => 0) 65) := Lib.hid (Blk.new W #[.int .u64 0, .int .u64 0, .int .u64 0, .int .u64 0, .int .u64 0, .int .u64 0, .int .u64 0, .int .u64 0, .int .u64 0, .int .u64 0, .int .u64 0, .int .u64 0, .int .u64 0, .int .u64 0, .int .u64 0, .int .u64 0] 65)
                  have HG : Hid (w8.heap.size ≤ W.heap.size) := Lib.hid HC.out.size
                  (try (replace HC := Lib.hid (HC.out.step C1))); (try (replace HP := Lib.hid (HP.out.chg0 C1))); (try (replace H8 := Lib.hid (H8.out.chg0 C1))); (try (replace H9 := Lib.hid (H9.out.chg0 C1))); (try (replace HA := Lib.hid (HA.out.chg0 C1))); (try (replace HB := Lib.hid (HB.out.chg0 C1))); (try (replace HR := Lib.hid (HR.out.chg0 C1))); (try (replace HF := Lib.hid (Chg.blk0 C1 HF.out)))
                  refine hK _ _ HC.out ?_
                  clear hK K C1
                  generalize W.alloc (.cells #[.int .u64 0, .int .u64 0, .int .u64 0, .int .u64 0, .int .u64 0, .int .u64 0, .int .u64 0, .int .u64 0, .int .u64 0, .int .u64 0, .int .u64 0, .int .u64 0, .int .u64 0, .int .u64 0, .int .u64 0, .int .u64 0] 65) = WN at *
                  generalize W.heap.size = bF at *
                  rename World => W
                  refine wpMix_force rfl (fun K hK => ?_)
                  refine wp_store_mid _ _ _ rfl bF 0 (rcs c3.r) rfl rfl (rcs_there HF.out) arr_info (rcs_one _) ?_
                  have HS := store_all HF.out (rcs c3.r).toList rfl
                  have CS := HC.out.trans (S := NoB) HS.2 fun k hk e => by have e : k = bF := e; have := HG.out; omega
                  refine hK _ _ CS ?_
                  clear hK K
                  refine wpMix_nil ?_
                  go_wp2_with fail
                  go_meet
                  exact ⟨bF, rfl, rfl, HS.1, CS⟩
        case rest =>
          obtain ⟨b9, rfl, rfl, hB9, hC9⟩ := hcut
          rename World => w9
          have HB9 := Lib.hid hB9
          have HC9 := Lib.hid (HC8.out.step hC9)
          clear hB9 hC9
          have e6 : w9.cell? ⟨b9, 6, none⟩ = some (.int .u64 (c3.r 6)) := HB9.out.cell' (rcs_at c3.r (n := 6) (by omega))
          have el := HB9.out.lt
          have q2 := qa.out
          have q3 := qb.out
          have ho := HO.out
          cases less with
          | true =>
            have ho' : ¬ o = 15 := by simp at ho; omega
            clear ho
            by_cases hxy : x < y
            · have h6 : c3.r 6 = 1 := by rw [H36.out]; simp [ho', hxy]
              rw [h6] at e6
              replace e6 : w9.cell? ⟨b9, 6, none⟩ = some (.int .u64 1) := e6
              have t1 : decide ((x : Int) < y) = true := decide_eq_true (by omega)
              have t2 : decide (x < y) = true := decide_eq_true (by omega)
              clear ho' h6
              go_wp2_with fail
              go_ret
              exact ⟨rfl, HC9.out⟩
            · have h6 : c3.r 6 = 2 := by rw [H36.out]; simp [ho', hxy]
              rw [h6] at e6
              replace e6 : w9.cell? ⟨b9, 6, none⟩ = some (.int .u64 2) := e6
              have t1 : decide ((x : Int) < y) = false := decide_eq_false (by omega)
              have t2 : decide (x < y) = false := decide_eq_false (by omega)
              clear ho' h6
              go_wp2_with fail
              go_ret
              exact ⟨rfl, HC9.out⟩
          | false =>
            have ho' : o = 15 := by simp at ho; omega
            clear ho
            by_cases hxy : x = y
            · have h6 : c3.r 6 = 1 := by rw [H36.out]; simp [ho', hxy]
              rw [h6] at e6
              replace e6 : w9.cell? ⟨b9, 6, none⟩ = some (.int .u64 1) := e6
              have t1 : ((x : Int) == y) = true := by simp [hxy]
              clear hxy ho' h6
              go_wp2_with fail
              go_ret
              exact ⟨rfl, HC9.out⟩
            · have h6 : c3.r 6 = 2 := by rw [H36.out]; simp [ho', hxy]
              rw [h6] at e6
              replace e6 : w9.cell? ⟨b9, 6, none⟩ = some (.int .u64 2) := e6
              have t1 : ((x : Int) == y) = false := by simp; omega
              clear hxy ho' h6
              go_wp2_with fail
              go_ret
              exact ⟨rfl, HC9.out⟩
end Go.Proofs.YthceikgkaellkaaGreat
