/- The reference's words: Size, Bytes; its instructions' words: Put. No condition. A space with a program, its plain twin, a core and its: Made. No condition. A space, a core that runs in it: the unit behind a try. No condition. -/
import Derived.Test.YtapmojfebljjnaaGreatHj
import Derived.Test.YtapmojfebljjnaaGreatHd
import Derived.Test.YtapmojfebljjnaaGreatGy
set_option linter.unusedVariables false
set_option linter.unusedSimpArgs false
namespace Go.Proofs.YtapmojfebljjnaaGreat
open Go.RowKit Go.RR
def bc (d : List Nat) : List Value := d.map fun x : Nat => .int .u8 x
theorem bc_one (d : List Nat) : ∀ u ∈ bc d, u.oneCell' = true := by unfold bc; simp [Value.oneCell']
theorem bc_len (d : List Nat) : (bc d).length = d.length := List.length_map ..
set_option maxHeartbeats 1000000 in
set_option maxRecDepth 100000 in
theorem rSize4 (w : World) : Calls Tryz.prog 56 #[.int .i64 4] w (RetW (.bool true) fun w' => Chg NoB w w') := by
  have hB := Blk.new w #[.int .i64 1, .int .i64 2, .int .i64 4, .int .i64 8] 3
  have k0 : Chg NoB w (w.alloc (.cells #[.int .i64 1, .int .i64 2, .int .i64 4, .int .i64 8] 3)) := (Chg.refl NoB w).alloc _
  go_enter Tryz.func56, Tryz.ntmps56
  go_wp2_with fail
  generalize w.alloc (.cells #[.int .i64 1, .int .i64 2, .int .i64 4, .int .i64 8] 3) = w1 at *
  have HC := Lib.hid k0
  have g := hB.cell
  have gl := hB.lt
  clear k0
  go_loopg [7] 2 (fun k i wr => wr = w1 ∧ ((k = 2 ∧ i = .int .i64 0) ∨ (k = 1 ∧ i = .int .i64 1) ∨ (k = 0 ∧ i = .int .i64 2)))
  case atStart => exact ⟨rfl, .inl ⟨rfl, rfl⟩⟩
  case round =>
    obtain ⟨rfl, ⟨hk, rfl⟩ | ⟨hk, rfl⟩ | ⟨hk, rfl⟩⟩ := hrel
    · subst hk
      go_wp2_with fail
      go_roundg 1
      case rel => exact ⟨rfl, .inr (.inl ⟨rfl, rfl⟩)⟩
      case measure => omega
    · subst hk
      go_wp2_with fail
      go_roundg 0
      case rel => exact ⟨rfl, .inr (.inr ⟨rfl, rfl⟩)⟩
      case measure => omega
    · go_wp2_with fail
      go_ret
      exact ⟨rfl, HC.out⟩
theorem bytesW_take (v : Nat) : ∀ (n i : Nat), i < n → (bytesW v n).take (i + 1) = (bytesW v n).take i ++ [v / 256 ^ i % 256] := fun n i h => by
  rw [List.take_add_one, bytesW_get n v i h]
  rfl
set_option maxHeartbeats 1000000 in
set_option maxRecDepth 100000 in
theorem rBytes_any (v : Nat) (hv : v < 4294967296) (w : World) : Calls Tryz.prog 24 #[.int .u64 v, .int .i64 4] w (RetSl fun bv w' => Own w' (fun k => w.heap.size ≤ k) 5 1 bv 4 (bc (bytesW v 4)) ∧ Chg NoB w w') := by
  have HS := Lib.hid rSize4
  have HV := Lib.hid hv
  obtain ⟨i0, hi0, hz0, hz1, hz2⟩ := info_parts b_elem
  have HI := Lib.hid (And.intro hi0 (And.intro hz0 (And.intro hz1 hz2)))
  clear hi0 hz0 hz1 hz2 hv
  go_enter Tryz.func24, Tryz.ntmps24
  go_wp2_with fail
  go_loopg [0, 5, 6] 4 (fun k x b iv wr => ∃ i : Nat, i ≤ 4 ∧ k = 4 - i ∧ iv = .int .i64 i ∧ x = .int .u64 (v / 256 ^ i : Nat) ∧ Own wr (fun k => w.heap.size ≤ k) 5 1 b i (bc ((bytesW v 4).take i)) ∧ Chg NoB w wr)
  case atStart => exact ⟨0, by omega, rfl, rfl, by rw [Nat.pow_zero, Nat.div_one], Own.nil _ _ _ _, Chg.refl NoB w⟩
  case round =>
    obtain ⟨i, h4, rfl, rfl, rfl, hO, hC⟩ := hrel
    obtain ⟨p, c, hb⟩ := hO.form
    subst hb
    have HO := Lib.hid hO
    have HC := Lib.hid hC
    clear hO hC
    by_cases hi : i < 4
    · have t1 : decide ((i : Int) < 4) = true := decide_eq_true (by omega)
      have H4 := Lib.hid h4
      have HIL := Lib.hid hi
      obtain ⟨y, hy⟩ : ∃ y, v / 256 ^ i = y := ⟨_, rfl⟩
      have HY := Lib.hid hy
      rw [hy]
      clear h4 hy hi
      go_upto_region 5 with (refine (HS.out _).mono ?_; rintro e w1 ⟨rfl, c1⟩)
      have oA := (HO.out.chg0 c1).chg0 ((Chg.refl NoB w1).alloc (.cells #[.int .u8 ((y : Int) % 256)] 5))
      have sB := (Own.fresh w1 [.int .u8 ((y : Int) % 256)] 5 1 rfl (by unfold maxLen; omega) : Own _ _ _ 1 _ _ _).sl
      have one1 : ∀ u ∈ [Value.int .u8 ((y : Int) % 256)], u.oneCell' = true := by simp [Value.oneCell']
      have b1 : i + 1 ≤ maxLen := by unfold maxLen; have := H4.out; omega
      have b2 : (i + 1) * 1 ≤ 140737488355328 := by have := H4.out; omega
      obtain ⟨hi0, hz0, hz1, hz2⟩ := HI.out
      have HC1 := Lib.hid ((HC.out.then0 c1).alloc (.cells #[.int .u8 ((y : Int) % 256)] 5))
      clear c1
      go_wp2_with (at_builtin; go_must (refine wpList_app rfl _ _ 70 rfl i0 _ 1 Tryz.underlying70 hi0 hz0 hz1 hz2 rfl rfl oA _ 1 _ rfl sB one1 b1 b2 ?_))
      intro v4 w4 o4 g4 _
      have HO4 := Lib.hid o4
      have HG4 := Lib.hid g4
      have q2 : IntKind.i64.wrap ((i : Int) + 1) = ((i + 1 : Nat) : Int) := IntWalk.i64_in _ (by have := H4.out; omega)
      clear oA sB one1 b1 b2 hi0 hz0 hz1 hz2 o4 g4
      go_wp2_with fail
      go_roundg (4 - (i + 1))
      case rel =>
        refine ⟨i + 1, by have := HIL.out; omega, rfl, by go_num, ?_, ?_, ?_⟩
        · rw [Nat.pow_succ, ← Nat.div_div_eq_div_mul, HY.out]
          have hy : y < 4294967296 := by rw [← HY.out]; exact Nat.lt_of_le_of_lt (Nat.div_le_self _ _) HV.out
          have : IntKind.u64.wrap ((y : Int) / 256) = ((y / 256 : Nat) : Int) := by rw [IntKind.wrap_u64]; omega
          rw [this]
        · have e : bc ((bytesW v 4).take (i + 1)) = bc ((bytesW v 4).take i) ++ [Value.int .u8 ((y : Int) % 256)] := by
            rw [bytesW_take v 4 i HIL.out, HY.out]
            unfold bc
            rw [List.map_append]
            rfl
          rw [e]
          refine HO4.out.mono fun k hk => ?_
          rcases hk with hk | hk
          · exact (HO.out.ownBlock k hk).1
          · have := HC1.out.size
            rw [World.size_alloc] at this
            omega
        · refine HC1.out.trans (grown_chg (S := fun k => (Value.slice p i c).ownBlock = some k) HG4.out fun k hk => hk) fun k hk e => ?_
          have := (HO.out.ownBlock k e).1
          omega
      case measure => have := HIL.out; omega
    · have t1 : decide ((i : Int) < 4) = false := decide_eq_false (by omega)
      have e4 : i = 4 := by omega
      subst e4
      clear hi h4
      go_wp2_with (refine (HS.out _).mono ?_; rintro e w1 ⟨rfl, c1⟩)
      go_ret
      exact ⟨_, rfl, HO.out.chg0 c1, HC.out.then0 c1⟩
set_option maxHeartbeats 1000000 in
set_option maxRecDepth 100000 in
theorem rPut_any (i : In) (hi : i.Ok) (w : World) : Calls Tryz.prog 25 #[.agg #[.int .i64 i.op, .int .i64 i.rd, .int .i64 i.rs, .int .i64 i.rt, .int .i64 i.im]] w (RetW (.int .u32 (instW i)) fun w' => Chg NoB w w') := by
  have hw := instW_lt hi
  obtain ⟨o, rd, rs, rt, im⟩ := i
  have h0 := hi.o0; have h1 := hi.o1; have h2 := hi.d0; have h3 := hi.d1; have h4 := hi.s0; have h5 := hi.s1; have h6 := hi.t0; have h7 := hi.t1; have h8 := hi.i0; have h9 := hi.i1
  dsimp only at h0 h1 h2 h3 h4 h5 h6 h7 h8 h9
  have e : ∃ a b c d m : Nat, o = a ∧ rd = b ∧ rs = c ∧ rt = d ∧ (im % 4096).toNat = m ∧ a ≤ 34 ∧ b ≤ 15 ∧ c ≤ 15 ∧ d ≤ 15 ∧ m < 4096 := ⟨o.toNat, rd.toNat, rs.toNat, rt.toNat, _, by omega, by omega, by omega, by omega, rfl, by omega, by omega, by omega, by omega, by omega⟩
  obtain ⟨a, b, c, d, m, rfl, rfl, rfl, rfl, hm, ha, hb, hc, hd, hmm⟩ := e
  have hw : instW ⟨a, b, c, d, im⟩ = a + b * 256 + c * 4096 + d * 65536 + m * 1048576 := by
    unfold instW
    dsimp only
    rw [hm]
    simp only [Int.toNat_natCast]
  rw [hw]
  go_enter Tryz.func25, Tryz.ntmps25
  by_cases hn : im < 0
  · have t1 : decide (im < 0) = true := decide_eq_true hn
    go_wp2_with fail
    go_ret
    have ev : (a : Int) + 256 * b + 4096 * c + 65536 * d + 1048576 * (im + 4096) = ((a + b * 256 + c * 4096 + d * 65536 + m * 1048576 : Nat) : Int) := by omega
    exact ⟨congrArg (fun z => Ending.returned (Value.int .u32 z)) ev, (Chg.refl NoB w).alloc _⟩
  · have t1 : decide (im < 0) = false := decide_eq_false hn
    go_wp2_with fail
    go_ret
    have ev : (a : Int) + 256 * b + 4096 * c + 65536 * d + 1048576 * im = ((a + b * 256 + c * 4096 + d * 65536 + m * 1048576 : Nat) : Int) := by omega
    exact ⟨congrArg (fun z => Ending.returned (Value.int .u32 z)) ev, (Chg.refl NoB w).alloc _⟩
end Go.Proofs.YtapmojfebljjnaaGreat
set_option linter.unusedVariables false
set_option linter.unusedSimpArgs false
namespace Go.Proofs.YtapmojfebljjnaaGreat
open Go.RowKit Go.RR
def RB (x xc xp xt : Nat) (k : Nat) : Prop := k = x ∨ k = xc ∨ k = xp ∨ k = xt
theorem RefAt.lt {w : World} {x cb ob pb tb : Nat} {pc : Array Value} {free : Int} {tab lead : Bool} (h : RefAt w x cb ob pb tb pc free tab lead) : ∀ k, RB x cb pb tb k → k < w.heap.size := by
  obtain ⟨Z, hZ, -⟩ := h.code
  rintro k (rfl | rfl | rfl | rfl)
  · exact h.blk.lt
  · exact hZ.lt
  · exact h.pages.lt
  · exact h.tabs.lt
theorem RefAt.chg {w w' : World} {S : Nat → Prop} {x cb ob pb tb : Nat} {pc : Array Value} {free : Int} {tab lead : Bool} (h : RefAt w x cb ob pb tb pc free tab lead) (c : Chg S w w') (hn : ∀ k, RB x cb pb tb k → ¬ S k) : RefAt w' x cb ob pb tb pc free tab lead := by
  obtain ⟨Z, hZ, hs⟩ := h.code
  exact ⟨c.blk h.blk (hn _ (.inl rfl)), ⟨Z, c.blk hZ (hn _ (.inr (.inl rfl))), hs⟩, c.blk h.pages (hn _ (.inr (.inr (.inl rfl)))), c.blk h.tabs (hn _ (.inr (.inr (.inr rfl)))), h.n1, h.n2, h.n3, h.n4, h.n5, h.n6⟩
theorem SpAt.lt {w : World} {L : Pl} {s : Spc} (h : SpAt w L s) : ∀ k, L.All k → k < w.heap.size := fun k hk => hk.elim (fun e => (h.ap.nm k e).1) (h.ap.bd k)
/-- The space and its twin, as Made goes on. -/
structure Stg (w wi : World) (L : Pl) (s : Spc) (x cb ob pb tb : Nat) (pc : Array Value) (free : Int) (tab lead : Bool) : Prop where
  sp : SpAt wi L s
  rf : RefAt wi x cb ob pb tb pc free tab lead
  lo : ∀ k, L.All k → w.heap.size ≤ k
  rlo : ∀ k, RB x cb pb tb k → w.heap.size ≤ k
  ap : ∀ k, RB x cb pb tb k → ¬ L.All k
  ch : Chg NoB w wi
theorem Stg.chg0 {w wi w' : World} {L : Pl} {s : Spc} {x cb ob pb tb : Nat} {pc : Array Value} {free : Int} {tab lead : Bool} (h : Stg w wi L s x cb ob pb tb pc free tab lead) (c : Chg NoB wi w') : Stg w w' L s x cb ob pb tb pc free tab lead :=
  ⟨h.sp.chg0 c, h.rf.chg c fun _ _ => id, h.lo, h.rlo, h.ap, h.ch.step c⟩
theorem Stg.space {w wi w' : World} {L L' : Pl} {s s' : Spc} {x cb ob pb tb : Nat} {pc : Array Value} {free : Int} {tab lead : Bool} (h : Stg w wi L s x cb ob pb tb pc free tab lead) (e : Ext L L' wi) (hs : SpAt w' L' s') (c : Chg L.All wi w') : Stg w w' L' s' x cb ob pb tb pc free tab lead :=
  ⟨hs, h.rf.chg c h.ap, fun k hk => (e.2.2 k hk).elim (h.lo k) fun e => Nat.le_trans h.ch.size e, h.rlo, fun k hk ha => (e.2.2 k ha).elim (h.ap k hk) fun e => by have := h.rf.lt k hk; omega, h.ch.trans c fun k hk e => absurd (h.lo k e) (by omega)⟩
theorem Stg.twin {w wi w' : World} {L : Pl} {s : Spc} {x cb ob pb tb : Nat} {pc pc' : Array Value} {free free' : Int} {tab lead tab' lead' : Bool} (h : Stg w wi L s x cb ob pb tb pc free tab lead) (hr : RefAt w' x cb ob pb tb pc' free' tab' lead') (c : Chg (RB x cb pb tb) wi w') : Stg w w' L s x cb ob pb tb pc' free' tab' lead' :=
  ⟨h.sp.chg c fun k hk e => h.ap k e hk, hr, h.lo, h.rlo, h.ap, h.ch.trans c fun k hk e => absurd (h.rlo k e) (by omega)⟩
/-- The right ones of a list's first thousand instructions. -/
def progL (l : List In) : List In := (l.take 1000).filter rightB
theorem Stg.copied {w wi : World} {L : Pl} {s : Spc} {x cb ob pb tb : Nat} {pc : Array Value} {free : Int} {tab lead : Bool} (h : Stg w wi L s x cb ob pb tb pc free tab lead) {Z : Array Value} (hZ : Blk wi cb Z 5) (cs : Array Value) (hs : cs.size = 4096) : Stg w (wi.setRow cb cs) L s x cb ob pb tb pc free tab lead := by
  have c := setRow_chg wi cb cs
  have h1 := h.rf
  exact h.twin ⟨c.blk h1.blk h1.n1, ⟨cs, setRow_blk hZ, hs⟩, c.blk h1.pages (fun e => h1.n4 e.symm), c.blk h1.tabs (fun e => h1.n5 e.symm), h1.n1, h1.n2, h1.n3, h1.n4, h1.n5, h1.n6⟩ (c.mono fun k _ e => .inr (.inl e))
theorem copy_size {Z : Array Value} (hz : Z.size = 4096) {cs : List Value} (hc : cs.length ≤ 4096) : (Z.toList.take 0 ++ cs ++ Z.toList.drop (0 + cs.length)).toArray.size = 4096 := by
  simp [hz]
  omega
theorem progL_step {l : List In} {i : Nat} {a : In} (h : l[i]? = some a) : progL (l.take (i + 1)) = progL (l.take i) ++ (if i < 1000 ∧ rightB a = true then [a] else []) := by
  have hi := (List.getElem?_eq_some_iff.1 h).1
  have e : l.take (i + 1) = l.take i ++ [a] := by rw [List.take_add_one, h]; rfl
  unfold progL
  rw [e, List.take_append, List.length_take, Nat.min_eq_left (by omega), List.filter_append]
  congr 1
  by_cases h1 : i < 1000
  · obtain ⟨m, hm⟩ : ∃ m, 1000 - i = m + 1 := ⟨999 - i, by omega⟩
    rw [hm]
    cases hr : rightB a <;> simp [h1, hr]
  · rw [show 1000 - i = 0 by omega, if_neg (fun e => h1 e.1)]
    rfl
theorem progL_no {l : List In} {i : Nat} {a : In} (h : l[i]? = some a) (hn : ¬ (i < 1000 ∧ rightB a = true)) : progL (l.take (i + 1)) = progL (l.take i) := by
  rw [progL_step h, if_neg hn, List.append_nil]
theorem progL_yes {l : List In} {i : Nat} {a : In} (h : l[i]? = some a) (h1 : i < 1000) (h2 : rightB a = true) : progL (l.take (i + 1)) = progL (l.take i) ++ [a] := by
  rw [progL_step h, if_pos ⟨h1, h2⟩]
theorem progL_len (l : List In) : (progL l).length ≤ 1000 := by unfold progL; exact Nat.le_trans (List.length_filter_le ..) (by rw [List.length_take]; omega)
theorem progB_app (a b : List In) : progB (a ++ b) = progB a ++ progB b := by unfold progB; rw [List.flatMap_append]
theorem bc_app (a b : List Nat) : bc (a ++ b) = bc a ++ bc b := List.map_append
set_option maxHeartbeats 4000000 in
set_option maxRecDepth 100000 in
theorem made_any {w : World} (l : List In) (S : Nat → Prop) (v : Value) (hs : Sl w S 5 v l.length (icells l)) (hl : l.length ≤ 100000) :
    Calls Tryz.prog 6 #[v] w (RetV fun r w' => ∃ (L : Pl) (cb xb rb : Nat), r = .tuple #[.pointer (some ⟨L.pb, 0, none⟩), .pointer (some ⟨xb, 0, none⟩), .pointer (some ⟨cb, 0, none⟩), .pointer (some ⟨rb, 0, none⟩)] ∧
      SpAt w' L (madeS (progL l)) ∧ CoreAt w' cb (Cor.new 65536) ∧ (∀ k, L.All k → w.heap.size ≤ k) ∧ w.heap.size ≤ cb ∧ ¬ L.All cb ∧ Chg NoB w w') := by
  have HSh := Lib.hid fun w' => shape_any w'
  obtain ⟨vp, vc, hvf⟩ := hs.form
  subst hvf
  have HV := Lib.hid hs
  have hM := made_ok (p := progL l) (fun i hi => (List.mem_filter.1 hi).2) (by unfold progL; exact Nat.le_trans (List.length_filter_le ..) (by rw [List.length_take]; omega))
  have HM := Lib.hid hM
  clear hs hM
  go_enter Tryz.func6, Tryz.ntmps6
  go_upto_region 2 with (refine (HSh.out _).mono ?_; rintro e w1 ⟨rfl, C1⟩)
  have hB := Blk.new w1 #[.int .i64 1, .int .i64 1, .int .i64 2] 62
  have k1 := C1.alloc (.cells #[.int .i64 1, .int .i64 1, .int .i64 2] 62)
  have hz : w1.heap.size < (w1.alloc (.cells #[.int .i64 1, .int .i64 1, .int .i64 2] 62)).heap.size := by simp
  obtain ⟨q, hq⟩ : ∃ q, w1.heap.size = q := ⟨_, rfl⟩
  have HQ : Hid (w.heap.size ≤ q) := Lib.hid (by rw [← hq]; exact C1.size)
  generalize w1.alloc (.cells #[.int .i64 1, .int .i64 1, .int .i64 2] 62) = w2 at *
  simp only [hq] at *
  have HK := Lib.hid k1
  have bE := hB.ever
  have bL := hB.everL
  have HN := Lib.hid fun w' => sNeed_any w'
  have HW : Hid (∀ w', Calls Tryz.prog 20 #[.agg #[.int .i64 1, .int .i64 1, .int .i64 2], .int .i64 9, .int .i64 4, .int .i64 2] w' (RetV fun v w'' => ∃ L : Pl, v = .tuple #[.pointer (some ⟨L.pb, 0, none⟩), .int .i64 0] ∧ SpAt w'' L made0S ∧ (∀ k, L.All k → w'.heap.size ≤ k) ∧ Chg NoB w' w'')) := Lib.hid fun w' => spaceNew_any shp 9 4 2 rfl (by omega) (by omega) (by omega) (by omega) (by omega) (by omega) (by decide) HM.out.l1 HM.out.l2 w'
  clear C1 k1 hB HSh hq
  have cc := Chg.refl NoB w2
  refine wp_region_mix 8 [(true, 0), (true, 1), (false, 2), (false, 3), (true, 4), (true, 5), (true, 6), (false, 7)] (fun w' => Chg NoB w2 w') (by kernel_rfl) (by kernel_rfl) (fun _ _ _ _ _ h => h) (cc.drew) ?_
  simp only [pickMix_nil, pickMix_cons, Option.getD_some, List.getElem?_toArray, List.getElem?_cons_zero, List.getElem?_cons_succ, List.cons_append, List.nil_append, List.drop_succ_cons, List.drop_zero]
  iterate 2
   refine wpMix_take rfl ?_
   apply Exists.intro
   refine ⟨fun wS hS => ?_, ?_⟩
   · try dsimp only at hS
     have cS := hS
     go_simp
     try rfl
   simp only [Act.put, List.setIfInBounds_toArray, List.set_cons_zero, List.set_cons_succ]
  refine wpMix_force rfl (fun K hK => ?_)
  go_simp
  refine (HN.out _).mono ?_
  rintro e w3 ⟨rfl, c3⟩
  have c4 : Chg NoB w2 w3 := cc.drew.step c3
  refine hK _ _ c4 ?_
  clear hK K c3
  refine wpMix_force rfl (fun K hK => ?_)
  go_simp
  refine (HW.out _).mono ?_
  rintro e w4 ⟨v4, rfl, L, rfl, hS4, hL4, c5⟩
  have c6 : Chg NoB w2 w4 := c4.step c5
  have HL4 : Hid (∀ k, L.All k → w.heap.size ≤ k) := Lib.hid fun k hk => Nat.le_trans (HK.out.step c4).size (hL4 k hk)
  have HS4 := Lib.hid hS4
  refine hK _ _ c6 ?_
  clear hK K c4 c5 hL4 hS4
  iterate 3
   refine wpMix_take rfl ?_
   apply Exists.intro
   refine ⟨fun wS hS => ?_, ?_⟩
   · try dsimp only at hS
     have cS := hS
     go_simp
     try rfl
   simp only [Act.put, List.setIfInBounds_toArray, List.set_cons_zero, List.set_cons_succ]
  refine wpMix_force rfl (fun K hK => ?_)
  go_simp
  refine hK _ _ c6 ?_
  clear hK K
  refine wpMix_nil ?_
  have HRN := Lib.hid fun w' => rNeed_any w'
  have HRW := Lib.hid fun w' => rNew_any w'
  go_upto_region 3 with fail
  have cc4 := Chg.refl NoB w4
  have HW4 : Hid (w.heap.size ≤ w4.heap.size) := Lib.hid (HK.out.step c6).size
  refine wp_region_mix 8 [(true, 0), (true, 1), (false, 2), (false, 3), (true, 4), (true, 5), (true, 6), (false, 7)] (fun w' => Chg NoB w2 w') (by kernel_rfl) (by kernel_rfl) (fun _ _ _ _ _ h => h) (c6.drew) ?_
  simp only [pickMix_nil, pickMix_cons, Option.getD_some, List.getElem?_toArray, List.getElem?_cons_zero, List.getElem?_cons_succ, List.cons_append, List.nil_append, List.drop_succ_cons, List.drop_zero]
  iterate 2
   refine wpMix_take rfl ?_
   apply Exists.intro
   refine ⟨fun wS hS => ?_, ?_⟩
   · try dsimp only at hS
     have cS := hS
     go_simp
     try rfl
   simp only [Act.put, List.setIfInBounds_toArray, List.set_cons_zero, List.set_cons_succ]
  refine wpMix_force rfl (fun K hK => ?_)
  go_simp
  refine (HRN.out _).mono ?_
  rintro e w5 ⟨rfl, c7⟩
  have c8 : Chg NoB w4 w5 := (cc4.drew).step c7
  refine hK _ _ (c6.step c8) ?_
  clear hK K c7
  refine wpMix_force rfl (fun K hK => ?_)
  go_simp
  refine (HRW.out _).mono ?_
  rintro e w6 ⟨v6, rfl, x, xc, xo, xp, xt, rfl, hR6, hx6, c9⟩
  have c10 : Chg NoB w4 w6 := c8.step c9
  have HS6 := Lib.hid (HS4.out.chg0 c10)
  have HR6 := Lib.hid hR6
  have HX6 : Hid (∀ k, k = x ∨ k = xc ∨ k = xp ∨ k = xt → w4.heap.size ≤ k) := Lib.hid fun k hk => Nat.le_trans c8.size (hx6 k hk)
  have HC6 : Hid (Chg NoB w w6) := Lib.hid ((HK.out.step c6).step c10)
  have c11 := c6.step c10
  refine hK _ _ c11 ?_
  clear hK K c8 c9 hx6 hR6 c10
  iterate 3
   refine wpMix_take rfl ?_
   apply Exists.intro
   refine ⟨fun wS hS => ?_, ?_⟩
   · try dsimp only at hS
     have cS := hS
     go_simp
     try rfl
   simp only [Act.put, List.setIfInBounds_toArray, List.set_cons_zero, List.set_cons_succ]
  refine wpMix_force rfl (fun K hK => ?_)
  go_simp
  refine hK _ _ (show Chg NoB w2 _ from c11) ?_
  clear hK K c11
  refine wpMix_nil ?_
  have hI := (InsAt.of (HV.out.chg0 HC6.out) hl)
  obtain ⟨p', c', hpe, hI⟩ := hI
  cases hpe
  have HI := Lib.hid hI
  have HRR := Lib.hid fun (i : In) w' => rright_any i w'
  obtain ⟨i0, hi0, hz0, hz1, hz2⟩ := info_parts b_elem
  have HIF := Lib.hid (And.intro hi0 (And.intro hz0 (And.intro hz1 hz2)))
  clear hI hi0 hz0 hz1 hz2 bE bL HN HW HRN HRW cc cc4 c6 hz
  go_wp2_with fail
  go_loopg [11, 31] l.length (fun k b iv wr => ∃ i : Nat, i + k = l.length ∧ iv = .int .i64 i ∧ Own wr (fun k => w6.heap.size ≤ k) 5 1 b (progB (progL (l.take i))).length (bc (progB (progL (l.take i)))) ∧ Chg NoB w6 wr)
  case atStart => exact ⟨0, by omega, rfl, Own.nil _ _ _ _, Chg.refl NoB w6⟩
  case round =>
    obtain ⟨i, hik, rfl, hO, hC⟩ := hrel
    obtain ⟨bp, bcap, hb⟩ := hO.form
    subst hb
    have HO := Lib.hid hO
    have HC := Lib.hid hC
    have HIK := Lib.hid hik
    clear hO
    by_cases hi : i < l.length
    · obtain ⟨a, ha⟩ : ∃ a, l[i]? = some a := ⟨l[i], List.getElem?_eq_getElem hi⟩
      obtain ⟨g, of, rfl, hg, x0, x1, x2, x3, x4⟩ := (HI.out.chg0 hC).at ha
      have hcap := HI.out.cap
      have n0 : (0 : Int) ≤ i := by omega
      have n1 : IntKind.i64.wrap (i : Int) = i := IntWalk.i64_in _ (by omega)
      have n2 : (i : Int).toNat = i := Int.toNat_natCast i
      have t1 : decide ((i : Int) < l.length) = true := decide_eq_true (by omega)
      have q2 : IntKind.i64.wrap ((i : Int) + 1) = ((i + 1 : Nat) : Int) := IntWalk.i64_in _ (by omega)
      have HA := Lib.hid ha
      have HIL := Lib.hid hi
      clear hC hik ha hi hl
      by_cases hk : i < 1000
      · have t2 : decide ((i : Int) < 1000) = true := decide_eq_true (by omega)
        have HK' := Lib.hid hk
        clear hk
        go_upto_region 8 with fail
        have B0 := Blk.new wr #[.int .i64 a.op, .int .i64 a.rd, .int .i64 a.rs, .int .i64 a.rt, .int .i64 a.im] 41
        have A0 := (Chg.refl NoB wr).alloc (.cells #[.int .i64 a.op, .int .i64 a.rd, .int .i64 a.rs, .int .i64 a.rt, .int .i64 a.im] 41)
        generalize wr.alloc (.cells #[.int .i64 a.op, .int .i64 a.rd, .int .i64 a.rs, .int .i64 a.rt, .int .i64 a.im] 41) = wa at *
        obtain ⟨ab, hab⟩ : ∃ ab, wr.heap.size = ab := ⟨_, rfl⟩
        rw [hab] at B0
        simp only [hab]
        have bE := B0.ever
        have bL := B0.everL
        have HA0 := Lib.hid A0
        have y0 := B0.cell
        have yl := B0.lt
        clear A0 B0 hab x0 x1 x2 x3 x4 hg
        have HRA := Lib.hid (fun w' => HRR.out a w')
        obtain ⟨rb, hrb⟩ : ∃ b, rightB a = b := ⟨_, rfl⟩
        rw [hrb] at HRA
        have HRB := Lib.hid hrb
        clear hrb
        cases rb with
        | false =>
          have HS1 := Lib.hid (progL_no HA.out fun e => Bool.false_ne_true (HRB.out.symm.trans e.2))
          go_wp2_with (refine (HRA.out _).mono ?_; rintro e w7 ⟨rfl, c7⟩)
          go_roundg (l.length - (i + 1))
          case rel => exact ⟨i + 1, by have := HIL.out; omega, by go_num, by rw [HS1.out]; exact (HO.out.chg0 HA0.out).chg0 c7, (HC.out.step HA0.out).step c7⟩
          case measure => have := HIK.out; have := HIL.out; omega
        | true =>
          have HS1 := Lib.hid (progL_yes HA.out HK'.out HRB.out)
          go_wp2_with fail
          refine (HRA.out _).mono ?_
          rintro e w7 ⟨rfl, c7⟩
          have HC7 := Lib.hid c7
          have HPu := Lib.hid (fun w' => rPut_any a (In.ok HRB.out) w')
          have y0 := bE w7 c7
          have yl := bL w7 c7
          clear c7
          go_wp2_with fail
          refine (HPu.out _).mono ?_
          rintro e w8 ⟨rfl, c8⟩
          have HC8 := Lib.hid c8
          have hwl := instW_lt (In.ok HRB.out)
          have HB8 := Lib.hid (fun w' => rBytes_any (instW a) hwl w')
          have q3 : IntKind.u64.wrap ((instW a : Nat) : Int) = ((instW a : Nat) : Int) := by rw [IntKind.wrap_u64]; omega
          clear c8 y0 yl bE bL hwl HPu
          go_wp2_with fail
          refine (HB8.out _).mono ?_
          rintro e w9 ⟨v9, rfl, hO9, c9⟩
          have HC9 := Lib.hid ((HA0.out.step HC7.out).step (HC8.out.step c9))
          have oA := HO.out.chg0 HC9.out
          have sB := hO9.sl
          have one1 := bc_one (bytesW (instW a) 4)
          have hln : (progB (progL (l.take i))).length ≤ 4000 := by rw [progB_len]; have := progL_len (l.take i); omega
          have b1 : (progB (progL (l.take i))).length + 4 ≤ maxLen := by unfold maxLen; omega
          have b2 : ((progB (progL (l.take i))).length + 4) * 1 ≤ 140737488355328 := by omega
          obtain ⟨hi0, hz0, hz1, hz2⟩ := HIF.out
          clear c9 hln
          go_wp2_with (at_builtin; go_must (refine wpList_app rfl _ _ 70 rfl i0 _ 1 Tryz.underlying70 hi0 hz0 hz1 hz2 rfl rfl oA _ 4 _ rfl sB one1 b1 b2 ?_))
          intro v10 w10 o10 g10 _
          have HO10 := Lib.hid o10
          have HG10 := Lib.hid g10
          clear oA sB one1 b1 b2 hi0 hz0 hz1 hz2 o10 g10 hO9
          go_wp2_with fail
          go_roundg (l.length - (i + 1))
          case rel =>
            refine ⟨i + 1, by have := HIL.out; omega, by go_num, ?_, ?_⟩
            · have e : bc (progB (progL (l.take (i + 1)))) = bc (progB (progL (l.take i))) ++ bc (bytesW (instW a) 4) := by
                rw [HS1.out, progB_app, bc_app]
                rfl
              have e2 : (progB (progL (l.take (i + 1)))).length = (progB (progL (l.take i))).length + 4 := by
                rw [HS1.out, progB_app, List.length_append]; rfl
              rw [e, e2]
              refine HO10.out.mono fun k hk => ?_
              rcases hk with hk | hk
              · exact (HO.out.ownBlock k hk).1
              · have := (HC.out.step HC9.out).size
                omega
            · refine (HC.out.step HC9.out).trans (grown_chg (S := fun k => (Value.slice bp (progB (progL (l.take i))).length bcap).ownBlock = some k) HG10.out fun k hk => hk) fun k hk e => ?_
              have := (HO.out.ownBlock k e).1
              omega
          case measure => have := HIK.out; have := HIL.out; omega
      · have t2 : decide ((i : Int) < 1000) = false := decide_eq_false (by omega)
        have HS1 := Lib.hid (progL_no HA.out fun e => hk e.1)
        clear hk
        go_wp2_with fail
        go_roundg (l.length - (i + 1))
        case rel => exact ⟨i + 1, by have := HIL.out; omega, by go_num, by rw [HS1.out]; exact HO.out.chg0 ((Chg.refl NoB wr).alloc _), HC.out.alloc _⟩
        case measure => have := HIK.out; have := HIL.out; omega
    · have e : i = l.length := by omega
      subst e
      rw [List.take_length] at HO
      have t1 : decide ((l.length : Int) < l.length) = false := decide_eq_false (by omega)
      have t2 : decide (l.length < l.length) = false := decide_eq_false (by omega)
      have hln : (progB (progL l)).length ≤ 4000 := by rw [progB_len]; have := progL_len l; omega
      have HLN := Lib.hid hln
      have HSt : Hid (Stg w wr L made0S x xc xo xp xt #[.int .i64 0, .bool false, .slice none 0 0, .int .i64 0, .bool false, .slice none 0 0] 4 false false) := Lib.hid (Stg.chg0 ⟨HS6.out, HR6.out, HL4.out, fun k hk => Nat.le_trans HW4.out (HX6.out k hk), fun k hk e => by have := HX6.out k hk; have := HS4.out.lt k e; omega, HC6.out⟩ HC.out)
      have HCd := Lib.hid (code_any HSt.out.sp (.slice bp (progB (progL l)).length bcap) (progB (progL l)) (fun k => w6.heap.size ≤ k ∧ k < wr.heap.size) (HO.out.sl.monoIn fun k hk hs => ⟨hs, hk⟩) (fun k hk => ⟨fun e => by have := HS6.out.lt k e; omega, hk.2⟩) (progB_lt _) (by rw [HM.out.cl]; omega) (by rw [HM.out.cl]; omega) HM.out.cf)
      clear hC hik hi hl
      simp only [List.take_length]
      go_wp2_with fail
      refine HCd.out.mono ?_
      rintro e w11 ⟨rfl, L1, e1, s1, c1⟩
      have HSt1 : Hid (Stg w w11 L1 (mk1 made0S (progL l)) x xc xo xp xt #[.int .i64 0, .bool false, .slice none 0 0, .int .i64 0, .bool false, .slice none 0 0] 4 false false) := Lib.hid (HSt.out.space e1 s1 c1)
      have hsrc := HO.out.sl.chg c1 (fun k hk e => by have := HS6.out.lt k e; omega)
      have HPB : Hid (L1.pb = L.pb) := Lib.hid e1.1
      have HSrc := Lib.hid hsrc
      clear e1 s1 c1 hsrc HCd
      go_upto_region 12 with fail
      have hln4 : (bc (progB (progL l))).length = (progB (progL l)).length := bc_len _
      generalize hn : (progB (progL l)).length = n at *
      go_cut [52, 53, 54, 55, 56, 57] (fun a1 a2 a3 a4 a5 a6 wx => Stg w wx L1 (mk1 made0S (progL l)) x xc xo xp xt #[.int .i64 0, .bool false, .slice none 0 0, .int .i64 0, .bool false, .slice none 0 0] 4 false false)
      case first =>
        have xg := HSt1.out.rf.blk.cell' (i := 3) (v := .slice (some ⟨xc, 0, none⟩) 4096 4096) rfl
        have xl := HSt1.out.rf.blk.lt
        by_cases h0 : n = 0
        · subst h0
          have hcp := run_copy_none (P := Tryz.prog) w11 70 70 3 5 (some ⟨xc, 0, none⟩) bp 4096 4096 0 bcap Tryz.underlying70 (by kernel_rfl) (by simp)
          go_wp2_with fail
          go_meet
          exact HSt1.out
        · obtain ⟨-, p2, cap2, e2, -, hsp⟩ := HSrc.out
          cases e2
          obtain ⟨g, off, rfl, -, hg, hc⟩ := hsp (by omega)
          obtain ⟨Z, hZ, hZs⟩ := HSt1.out.rf.code
          have hcp := run_copy_row (P := Tryz.prog) w11 70 70 3 5 xc 0 4096 4096 ⟨g, off, none⟩ n bcap Z 5 (bc (progB (progL l))) Tryz.underlying70 (by kernel_rfl) hZ (by rw [hln4]; exact (Nat.min_eq_left (by have := HLN.out; omega)).symm) (fun j v hv => by rw [Addr.add_lit]; exact hc j v hv) (by rw [hln4, hZs]; have := HLN.out; omega) (bc_one _)
          have hcs := copy_size hZs (cs := bc (progB (progL l))) (by rw [hln4]; have := HLN.out; omega)
          have e3 : Z.toList.take 0 ++ bc (progB (progL l)) ++ Z.toList.drop (0 + (bc (progB (progL l))).length) = bc (progB (progL l)) ++ Z.toList.drop n := by rw [hln4, List.take_zero, List.nil_append, Nat.zero_add]
          rw [e3] at hcp hcs
          have HX := Lib.hid (HSt1.out.copied hZ _ hcs)
          clear e3 hcs
          clear hsp hc hZ hg
          go_wp2_with fail
          go_meet
          exact HX.out
      case rest =>
        have HSt2 := Lib.hid hcut
        have HSet1 : Hid (Calls Tryz.prog 27 #[.pointer (some ⟨L.pb, 0, none⟩), .int .i64 0, .int .i64 2] wc (RetW (.int .i64 0) fun w' => ∃ L' : Pl, Ext L1 L' wc ∧ SpAt w' L' (mk2 made0S (progL l)) ∧ Chg L1.All wc w')) := Lib.hid (by
          have := set_any HSt2.out.sp 0 2 HM.out.all.s1
          rw [HPB.out] at this
          exact this)
        clear hcut
        go_wp2_with fail
        refine HSet1.out.mono ?_
        rintro e w12 ⟨rfl, L2, e2, s2, c2⟩
        have HSt3 : Hid (Stg w w12 L2 (mk2 made0S (progL l)) x xc xo xp xt #[.int .i64 0, .bool false, .slice none 0 0, .int .i64 0, .bool false, .slice none 0 0] 4 false false) := Lib.hid (HSt2.out.space e2 s2 c2)
        have HPB2 : Hid (L2.pb = L.pb) := Lib.hid (e2.1.trans HPB.out)
        have HRS := Lib.hid (rSet0 HSt3.out.rf)
        clear e2 s2 c2 HSet1
        go_wp2_with fail
        refine HRS.out.mono ?_
        rintro e w13 ⟨rfl, g0, r3, c3⟩
        have HSt4 := Lib.hid (HSt3.out.twin r3 (c3.mono fun k _ e => by
          rcases e with e | e | e
          · exact .inl e
          · exact .inr (.inr (.inl e))
          · exact .inr (.inr (.inr e))))
        have HSet2 : Hid (Calls Tryz.prog 27 #[.pointer (some ⟨L.pb, 0, none⟩), .int .i64 1, .int .i64 1] w13 (RetW (.int .i64 0) fun w' => ∃ L' : Pl, Ext L2 L' w13 ∧ SpAt w' L' (mk3 made0S (progL l)) ∧ Chg L2.All w13 w')) := Lib.hid (by
          have := set_any HSt4.out.sp 1 1 HM.out.all.s2
          rw [HPB2.out] at this
          exact this)
        clear r3 c3 HRS
        go_wp2_with fail
        refine HSet2.out.mono ?_
        rintro e w14 ⟨rfl, L3, e3, s3, c4⟩
        have HSt5 := Lib.hid (HSt4.out.space e3 s3 c4)
        have HPB3 : Hid (L3.pb = L.pb) := Lib.hid (e3.1.trans HPB2.out)
        have HRS2 := Lib.hid (rSet1 HSt5.out.rf)
        clear e3 s3 c4 HSet2
        go_wp2_with fail
        refine HRS2.out.mono ?_
        rintro e w15 ⟨rfl, g1, r5, c5⟩
        have HSt6 := Lib.hid (HSt5.out.twin r5 (c5.mono fun k _ e => by
          rcases e with e | e | e
          · exact .inl e
          · exact .inr (.inr (.inl e))
          · exact .inr (.inr (.inr e))))
        have HNw : Hid (Calls Tryz.prog 29 #[.int .u64 65536] w15 (RetW (.pointer (some ⟨w15.heap.size, 0, none⟩)) fun w' => CoreAt w' w15.heap.size (Cor.new 65536) ∧ Chg NoB w15 w')) := Lib.hid (coreNew_any 65536 (by omega) w15)
        clear r5 c5 HRS2
        go_wp2_with fail
        refine HNw.out.mono ?_
        rintro e w16 ⟨rfl, k16, c6⟩
        have HC16 := Lib.hid k16
        have HSt7 := Lib.hid (HSt6.out.chg0 c6)
        have HL15 : Hid (∀ k, L3.All k → k < w15.heap.size) := Lib.hid HSt6.out.sp.lt
        have HW15 : Hid (w.heap.size ≤ w15.heap.size) := Lib.hid HSt6.out.ch.size
        clear k16 c6 HNw
        go_wp2_with fail
        refine bodyPost_ret (v := .tuple #[.pointer (some ⟨L.pb, 0, none⟩), .pointer (some ⟨x, 0, none⟩), .pointer (some ⟨w15.heap.size, 0, none⟩), .pointer (some ⟨w16.heap.size, 0, none⟩)]) (by simp [results, Tryz.results6, go_sem]) rfl ⟨_, rfl, L3, w15.heap.size, x, w16.heap.size, by rw [HPB3.out], ?_, ?_, HSt7.out.lo, HW15.out, fun e => absurd (HL15.out _ e) (Nat.lt_irrefl _), HSt7.out.ch.alloc _⟩
        · exact HSt7.out.sp.chg0 ((Chg.refl NoB w16).alloc _)
        · exact HC16.out.chg ((Chg.refl NoB w16).alloc _) id
end Go.Proofs.YtapmojfebljjnaaGreat
set_option linter.unusedVariables false
set_option linter.unusedSimpArgs false
namespace Go.Proofs.YtapmojfebljjnaaGreat
open Go.RowKit Go.RR
/-- What a try leaves of a unit, but for bytes and buffer. -/
structure UStay (u u' : Mu) : Prop where
  fr : u'.fr = u.fr
  satp : u'.satp = u.satp
  mode : u'.mode = u.mode
theorem UStay.refl (u : Mu) : UStay u u := ⟨rfl, rfl, rfl⟩
theorem readF_stay (u : Mu) (va : Nat) (size a pick : Int) : UStay u (readF u va size a pick).2 := by
  unfold readF
  dsimp only
  split <;> exact ⟨rfl, rfl, rfl⟩
theorem storeF_stay (u : Mu) (va : Nat) (size : Int) (v : Nat) (pick : Int) : UStay u (storeF u va size v pick).2 := by
  unfold storeF
  dsimp only
  split <;> exact ⟨rfl, rfl, rfl⟩
theorem swapF_stay (u : Mu) (va : Nat) (size : Int) (t : Nat → Nat) (pick : Int) : UStay u (swapF u va size t pick).2 := by
  unfold swapF
  dsimp only
  split <;> exact ⟨rfl, rfl, rfl⟩
theorem overF_stay (c : Cor) (u : Mu) (i : In) (pick : Int) : UStay u (overF c u i pick).2.2 := by
  unfold overF
  dsimp only
  split
  · split <;> exact readF_stay _ _ _ _ _
  · split
    · split <;> exact storeF_stay _ _ _ _ _
    · split <;> exact swapF_stay _ _ _ _ _
theorem doF_stay (X : Cx) (c : Cor) (u : Mu) (i : In) (pick : Int) : UStay u (doF X c u i pick).2.2 := by
  unfold doF
  dsimp only
  split
  · exact overF_stay _ _ _ _
  · split
    · exact UStay.refl u
    · split
      · exact UStay.refl u
      · split <;> exact UStay.refl u
theorem tryF_stay (X : Cx) (c : Cor) (u : Mu) (pick : Int) : UStay u (tryF X c u pick).2.2 := by
  unfold tryF
  split
  · exact UStay.refl u
  · dsimp only
    split
    · exact readF_stay _ _ _ _ _
    · have h := readF_stay u c.pc 4 0 pick
      split
      · exact h
      · rename_i i _
        have k := doF_stay X c (readF u c.pc 4 0 pick).2 i pick
        exact ⟨k.fr.trans h.fr, k.satp.trans h.satp, k.mode.trans h.mode⟩
theorem SpAt.unit {w w' : World} {L : Pl} {s : Spc} {cb : Nat} {u' : Mu} (h : SpAt w L s) (hcb : ¬ L.All cb) (hu : MuAt w' (Grow L.SM w) L.SB L.ub L.mb L.bb u') (st : UStay s.u u') (c : Chg (fun k => k = cb ∨ L.SM k ∨ L.SB k) w w') :
    SpAt w' (L.grow w w') { s with u := u' } := by
  have nm : ∀ b, b ∈ L.names → ¬ (b = cb ∨ L.SM b ∨ L.SB b) := fun b hb e => by
    obtain ⟨-, h2, h3, -⟩ := h.ap.nm b hb
    rcases e with e | e | e
    · exact hcb (e ▸ .inl hb)
    · exact h2 e
    · exact h3 e
  have ht := h.tab
  have hT : TabAt w' (Grow L.SM w) L.mb s.u.fr L.sb L.mp L.tb s.root { s.tst with b := u'.b } :=
    ⟨st.fr ▸ hu.mem, ht.stk.chg c (nm _ (by simp [Pl.names])) (nm _ (by simp [Pl.names])), c.blk ht.tab (nm _ (by simp [Pl.names])), fun e => e.elim ht.n1 (fun e => by have := ht.stk.blk.lt; omega), fun e => e.elim ht.n2 (fun e => by have := ht.stk.map.lt; omega),
      fun e => e.elim ht.n3 (fun e => by have := ht.tab.lt; omega), ht.n4, ht.n5, ht.ok, ht.us, ht.fr⟩
  have hSC : ∀ k, L.SC k → ¬ (k = cb ∨ L.SM k ∨ L.SB k) := fun k hk e => by
    rcases e with e | e | e
    · exact hcb (e ▸ .inr (.inr (.inr hk)))
    · exact (h.ap.mB k e).2 hk
    · exact h.ap.bC k e hk
  have := h.re c (nm _ (by simp [Pl.names])) (nm _ (by simp [Pl.names])) hSC hT hu.tlb (h.sh.chg c (nm _ (by simp [Pl.names]))) (h.ri.chg c (nm _ (by simp [Pl.names])))
  have e : u' = { s.u with b := u'.b, tlb := u'.tlb } := by
    obtain ⟨b, fr, tl, sa, md⟩ := u'
    have h1 := st.fr; have h2 := st.satp; have h3 := st.mode
    dsimp only at h1 h2 h3
    subst h1 h2 h3
    rfl
  rw [e]
  exact this
/-- A core beside a space. -/
structure Mc (w : World) (L : Pl) (s : Spc) (cb : Nat) (c : Cor) : Prop where
  sp : SpAt w L s
  co : CoreAt w cb c
  ap : ¬ L.All cb
theorem Mc.chg0 {w w' : World} {L : Pl} {s : Spc} {cb : Nat} {c : Cor} (h : Mc w L s cb c) (k : Chg NoB w w') : Mc w' L s cb c := ⟨h.sp.chg0 k, h.co.chg k id, h.ap⟩
theorem Mc.core {w w' : World} {L : Pl} {s : Spc} {cb : Nat} {c c' : Cor} (h : Mc w L s cb c) (hc : CoreAt w' cb c') (k : Chg (fun k => k = cb) w w') : Mc w' L s cb c' := ⟨h.sp.chg k fun j hj e => h.ap (by have e : j = cb := e; exact e ▸ hj), hc, h.ap⟩
def Blks (L : Pl) (cb : Nat) (k : Nat) : Prop := k = cb ∨ L.All k
end Go.Proofs.YtapmojfebljjnaaGreat
