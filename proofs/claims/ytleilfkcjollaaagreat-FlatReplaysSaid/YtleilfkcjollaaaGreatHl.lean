/- Lists of instructions as cells. Plain, no program. No condition. A program's bytes: of its instructions, of a node's program. No condition. Two machines that add to one word: what each instruction does. Plain, no program. No condition. -/
import Derived.Test.YtleilfkcjollaaaGreatGc
import Derived.Test.YtleilfkcjollaaaGreatHd
import Derived.Test.YtleilfkcjollaaaGreatGd
import Derived.Test.YtleilfkcjollaaaGreatHk
set_option linter.unusedVariables false
namespace Go.Proofs.YtleilfkcjollaaaGreat
open Go.RowKit Go.RR
def icells (l : List In) : List Value := l.flatMap In.cells
theorem icells_at : ∀ (l : List In) (n : Nat) (i : In), l[n]? = some i → (icells l)[n * 5]? = some (.int .i64 i.op) ∧ (icells l)[n * 5 + 1]? = some (.int .i64 i.rd) ∧ (icells l)[n * 5 + 2]? = some (.int .i64 i.rs) ∧ (icells l)[n * 5 + 3]? = some (.int .i64 i.rt) ∧ (icells l)[n * 5 + 4]? = some (.int .i64 i.im)
  | [], n, i, h => by simp at h
  | j :: l, 0, i, h => by simp at h; subst h; exact ⟨rfl, rfl, rfl, rfl, rfl⟩
  | j :: l, n + 1, i, h => by
    have := icells_at l n i (by simpa using h)
    rw [show (n + 1) * 5 = n * 5 + 5 by omega]
    exact this
theorem icells_app (a b : List In) : icells (a ++ b) = icells a ++ icells b := by unfold icells; rw [List.flatMap_append]
theorem icells_one (l : List In) : ∀ u ∈ icells l, u.oneCell' = true := by
  intro u hu
  unfold icells at hu
  obtain ⟨i, -, h⟩ := List.mem_flatMap.1 hu
  simp only [In.cells, List.mem_cons, List.not_mem_nil, or_false] at h
  rcases h with rfl | rfl | rfl | rfl | rfl <;> rfl
/-- One round over a piece's instruction, and the piece read. -/
structure InsAt (w : World) (p : Option Addr) (cap : Nat) (l : List In) : Prop where
  le : l.length ≤ 100000
  cap : l.length ≤ cap
  spot : 0 < l.length → ∃ g of, p = some ⟨g, of, none⟩ ∧ g < w.heap.size ∧ ∀ j u, (icells l)[j]? = some u → w.cell? ⟨g, of + j, none⟩ = some u
theorem InsAt.of {w : World} {S : Nat → Prop} {v : Value} {l : List In} (h : Sl w S 5 v l.length (icells l)) (hl : l.length ≤ 100000) : ∃ p cap, v = .slice p l.length cap ∧ InsAt w p cap l := by
  obtain ⟨-, p, cap, rfl, hc, hs⟩ := h
  refine ⟨p, cap, rfl, hl, hc, fun h0 => ?_⟩
  obtain ⟨g, of, hp, -, hg, hcell⟩ := hs h0
  exact ⟨g, of, hp, hg, hcell⟩
theorem InsAt.chg0 {w w' : World} {p : Option Addr} {cap : Nat} {l : List In} (h : InsAt w p cap l) (c : Chg NoB w w') : InsAt w' p cap l :=
  ⟨h.le, h.cap, fun h0 => by
    obtain ⟨g, of, hp, hg, hcell⟩ := h.spot h0
    exact ⟨g, of, hp, Nat.lt_of_lt_of_le hg c.size, fun j u hu => c.cell (hcell j u hu) id⟩⟩
/-- Where the instruction at place n stands. -/
theorem InsAt.at {w : World} {p : Option Addr} {cap : Nat} {l : List In} (h : InsAt w p cap l) {n : Nat} {i : In} (hn : l[n]? = some i) : ∃ g of, p = some ⟨g, of, none⟩ ∧ g < w.heap.size ∧
    w.cell? ⟨g, of + n * 5, none⟩ = some (.int .i64 i.op) ∧ w.cell? ⟨g, of + n * 5 + 1, none⟩ = some (.int .i64 i.rd) ∧ w.cell? ⟨g, of + n * 5 + 2, none⟩ = some (.int .i64 i.rs) ∧ w.cell? ⟨g, of + n * 5 + 3, none⟩ = some (.int .i64 i.rt) ∧ w.cell? ⟨g, of + n * 5 + 4, none⟩ = some (.int .i64 i.im) := by
  have hlt := (List.getElem?_eq_some_iff.1 hn).1
  obtain ⟨g, of, hp, hg, hcell⟩ := h.spot (by omega)
  obtain ⟨a0, a1, a2, a3, a4⟩ := icells_at l n i hn
  refine ⟨g, of, hp, hg, hcell _ _ a0, ?_, ?_, ?_, ?_⟩
  · rw [Nat.add_assoc]; exact hcell _ _ a1
  · rw [Nat.add_assoc]; exact hcell _ _ a2
  · rw [Nat.add_assoc]; exact hcell _ _ a3
  · rw [Nat.add_assoc]; exact hcell _ _ a4
end Go.Proofs.YtleilfkcjollaaaGreat
set_option linter.unusedVariables false
set_option linter.unusedSimpArgs false
namespace Go.Proofs.YtleilfkcjollaaaGreat
open Go.RowKit Go.RR
def bc (d : List Nat) : List Value := d.map fun x : Nat => .int .u8 x
theorem bc_one (d : List Nat) : ∀ u ∈ bc d, u.oneCell' = true := by unfold bc; simp [Value.oneCell']
set_option maxHeartbeats 1000000 in
set_option maxRecDepth 100000 in
theorem rSize4 (w : World) : Calls Tryz.prog 46 #[.int .i64 4] w (RetW (.bool true) fun w' => Chg NoB w w') := by
  have hB := Blk.new w #[.int .i64 1, .int .i64 2, .int .i64 4, .int .i64 8] 3
  have k0 : Chg NoB w (w.alloc (.cells #[.int .i64 1, .int .i64 2, .int .i64 4, .int .i64 8] 3)) := (Chg.refl NoB w).alloc _
  go_enter Tryz.func46, Tryz.ntmps46
  go_wp2_with fail
  generalize w.alloc (.cells #[.int .i64 1, .int .i64 2, .int .i64 4, .int .i64 8] 3) = w1 at *
  have HC := Lib.hid k0
  have g := hB.cell
  have gl := hB.lt
  clear k0
  go_loopg [7] 2 (fun k i wr => wr = w1 ∧ ((k = 2 ∧ i = .int .i64 0) ∨ (k = 1 ∧ i = .int .i64 1) ∨ (k = 0 ∧ i = .int .i64 2)))
  case atStart => exact ⟨rfl, .inl ⟨rfl, rfl⟩⟩
  case round =>
    obtain ⟨rfl, ⟨hk, rfl⟩ | ⟨hk, rfl⟩ | ⟨hk, rfl⟩⟩ := hrel
    · subst hk
      go_wp2_with fail
      go_roundg 1
      case rel => exact ⟨rfl, .inr (.inl ⟨rfl, rfl⟩)⟩
      case measure => omega
    · subst hk
      go_wp2_with fail
      go_roundg 0
      case rel => exact ⟨rfl, .inr (.inr ⟨rfl, rfl⟩)⟩
      case measure => omega
    · go_wp2_with fail
      go_ret
      exact ⟨rfl, HC.out⟩
theorem bytesW_take (v : Nat) : ∀ (n i : Nat), i < n → (bytesW v n).take (i + 1) = (bytesW v n).take i ++ [v / 256 ^ i % 256] := fun n i h => by
  rw [List.take_add_one, bytesW_get n v i h]
  rfl
set_option maxHeartbeats 1000000 in
set_option maxRecDepth 100000 in
theorem rBytes_any (v : Nat) (hv : v < 4294967296) (w : World) : Calls Tryz.prog 47 #[.int .u64 v, .int .i64 4] w (RetSl fun bv w' => Own w' (fun k => w.heap.size ≤ k) 5 1 bv 4 (bc (bytesW v 4)) ∧ Chg NoB w w') := by
  have HS := Lib.hid rSize4
  have HV := Lib.hid hv
  obtain ⟨i0, hi0, hz0, hz1, hz2⟩ := info_parts b_elem
  have HI := Lib.hid (And.intro hi0 (And.intro hz0 (And.intro hz1 hz2)))
  clear hi0 hz0 hz1 hz2 hv
  go_enter Tryz.func47, Tryz.ntmps47
  go_wp2_with fail
  go_loopg [0, 5, 6] 4 (fun k x b iv wr => ∃ i : Nat, i ≤ 4 ∧ k = 4 - i ∧ iv = .int .i64 i ∧ x = .int .u64 (v / 256 ^ i : Nat) ∧ Own wr (fun k => w.heap.size ≤ k) 5 1 b i (bc ((bytesW v 4).take i)) ∧ Chg NoB w wr)
  case atStart => exact ⟨0, by omega, rfl, rfl, by rw [Nat.pow_zero, Nat.div_one], Own.nil _ _ _ _, Chg.refl NoB w⟩
  case round =>
    obtain ⟨i, h4, rfl, rfl, rfl, hO, hC⟩ := hrel
    obtain ⟨p, c, hb⟩ := hO.form
    subst hb
    have HO := Lib.hid hO
    have HC := Lib.hid hC
    clear hO hC
    by_cases hi : i < 4
    · have t1 : decide ((i : Int) < 4) = true := decide_eq_true (by omega)
      have H4 := Lib.hid h4
      have HIL := Lib.hid hi
      obtain ⟨y, hy⟩ : ∃ y, v / 256 ^ i = y := ⟨_, rfl⟩
      have HY := Lib.hid hy
      rw [hy]
      clear h4 hy hi
      go_upto_region 5 with (refine (HS.out _).mono ?_; rintro e w1 ⟨rfl, c1⟩)
      have oA := (HO.out.chg0 c1).chg0 ((Chg.refl NoB w1).alloc (.cells #[.int .u8 ((y : Int) % 256)] 5))
      have sB := (Own.fresh w1 [.int .u8 ((y : Int) % 256)] 5 1 rfl (by unfold maxLen; omega) : Own _ _ _ 1 _ _ _).sl
      have one1 : ∀ u ∈ [Value.int .u8 ((y : Int) % 256)], u.oneCell' = true := by simp [Value.oneCell']
      have b1 : i + 1 ≤ maxLen := by unfold maxLen; have := H4.out; omega
      have b2 : (i + 1) * 1 ≤ 140737488355328 := by have := H4.out; omega
      obtain ⟨hi0, hz0, hz1, hz2⟩ := HI.out
      have HC1 := Lib.hid ((HC.out.then0 c1).alloc (.cells #[.int .u8 ((y : Int) % 256)] 5))
      clear c1
      go_wp2_with (at_builtin; go_must (refine wpList_app rfl _ _ 48 rfl i0 _ 1 Tryz.underlying48 hi0 hz0 hz1 hz2 rfl rfl oA _ 1 _ rfl sB one1 b1 b2 ?_))
      intro v4 w4 o4 g4 _
      have HO4 := Lib.hid o4
      have HG4 := Lib.hid g4
      have q2 : IntKind.i64.wrap ((i : Int) + 1) = ((i + 1 : Nat) : Int) := IntWalk.i64_in _ (by have := H4.out; omega)
      clear oA sB one1 b1 b2 hi0 hz0 hz1 hz2 o4 g4
      go_wp2_with fail
      go_roundg (4 - (i + 1))
      case rel =>
        refine ⟨i + 1, by have := HIL.out; omega, rfl, by go_num, ?_, ?_, ?_⟩
        · rw [Nat.pow_succ, ← Nat.div_div_eq_div_mul, HY.out]
          have hy : y < 4294967296 := by rw [← HY.out]; exact Nat.lt_of_le_of_lt (Nat.div_le_self _ _) HV.out
          have : IntKind.u64.wrap ((y : Int) / 256) = ((y / 256 : Nat) : Int) := by rw [IntKind.wrap_u64]; omega
          rw [this]
        · have e : bc ((bytesW v 4).take (i + 1)) = bc ((bytesW v 4).take i) ++ [Value.int .u8 ((y : Int) % 256)] := by
            rw [bytesW_take v 4 i HIL.out, HY.out]
            unfold bc
            rw [List.map_append]
            rfl
          rw [e]
          refine HO4.out.mono fun k hk => ?_
          rcases hk with hk | hk
          · exact (HO.out.ownBlock k hk).1
          · have := HC1.out.size
            rw [World.size_alloc] at this
            omega
        · refine HC1.out.trans (grown_chg (S := fun k => (Value.slice p i c).ownBlock = some k) HG4.out fun k hk => hk) fun k hk e => ?_
          have := (HO.out.ownBlock k e).1
          omega
      case measure => have := HIL.out; omega
    · have t1 : decide ((i : Int) < 4) = false := decide_eq_false (by omega)
      have e4 : i = 4 := by omega
      subst e4
      clear hi h4
      go_wp2_with (refine (HS.out _).mono ?_; rintro e w1 ⟨rfl, c1⟩)
      go_ret
      exact ⟨_, rfl, HO.out.chg0 c1, HC.out.then0 c1⟩
set_option maxHeartbeats 1000000 in
set_option maxRecDepth 100000 in
theorem rPut_any (i : In) (hi : i.Ok) (w : World) : Calls Tryz.prog 109 #[.agg #[.int .i64 i.op, .int .i64 i.rd, .int .i64 i.rs, .int .i64 i.rt, .int .i64 i.im]] w (RetW (.int .u32 (instW i)) fun w' => Chg NoB w w') := by
  have hw := instW_lt hi
  obtain ⟨o, rd, rs, rt, im⟩ := i
  have h0 := hi.o0; have h1 := hi.o1; have h2 := hi.d0; have h3 := hi.d1; have h4 := hi.s0; have h5 := hi.s1; have h6 := hi.t0; have h7 := hi.t1; have h8 := hi.i0; have h9 := hi.i1
  dsimp only at h0 h1 h2 h3 h4 h5 h6 h7 h8 h9
  have e : ∃ a b c d m : Nat, o = a ∧ rd = b ∧ rs = c ∧ rt = d ∧ (im % 4096).toNat = m ∧ a ≤ 34 ∧ b ≤ 15 ∧ c ≤ 15 ∧ d ≤ 15 ∧ m < 4096 := ⟨o.toNat, rd.toNat, rs.toNat, rt.toNat, _, by omega, by omega, by omega, by omega, rfl, by omega, by omega, by omega, by omega, by omega⟩
  obtain ⟨a, b, c, d, m, rfl, rfl, rfl, rfl, hm, ha, hb, hc, hd, hmm⟩ := e
  have hw : instW ⟨a, b, c, d, im⟩ = a + b * 256 + c * 4096 + d * 65536 + m * 1048576 := by
    unfold instW
    dsimp only
    rw [hm]
    simp only [Int.toNat_natCast]
  rw [hw]
  go_enter Tryz.func109, Tryz.ntmps109
  by_cases hn : im < 0
  · have t1 : decide (im < 0) = true := decide_eq_true hn
    go_wp2_with fail
    go_ret
    have ev : (a : Int) + 256 * b + 4096 * c + 65536 * d + 1048576 * (im + 4096) = ((a + b * 256 + c * 4096 + d * 65536 + m * 1048576 : Nat) : Int) := by omega
    exact ⟨congrArg (fun z => Ending.returned (Value.int .u32 z)) ev, (Chg.refl NoB w).alloc _⟩
  · have t1 : decide (im < 0) = false := decide_eq_false hn
    go_wp2_with fail
    go_ret
    have ev : (a : Int) + 256 * b + 4096 * c + 65536 * d + 1048576 * im = ((a + b * 256 + c * 4096 + d * 65536 + m * 1048576 : Nat) : Int) := by omega
    exact ⟨congrArg (fun z => Ending.returned (Value.int .u32 z)) ev, (Chg.refl NoB w).alloc _⟩
/-- The right ones of a list's first thousand instructions. -/
def progL (l : List In) : List In := (l.take 1000).filter rightB
theorem progL_step {l : List In} {i : Nat} {a : In} (h : l[i]? = some a) : progL (l.take (i + 1)) = progL (l.take i) ++ (if i < 1000 ∧ rightB a = true then [a] else []) := by
  have hi := (List.getElem?_eq_some_iff.1 h).1
  have e : l.take (i + 1) = l.take i ++ [a] := by rw [List.take_add_one, h]; rfl
  unfold progL
  rw [e, List.take_append, List.length_take, Nat.min_eq_left (by omega), List.filter_append]
  congr 1
  by_cases h1 : i < 1000
  · obtain ⟨m, hm⟩ : ∃ m, 1000 - i = m + 1 := ⟨999 - i, by omega⟩
    rw [hm]
    cases hr : rightB a <;> simp [h1, hr]
  · rw [show 1000 - i = 0 by omega, if_neg (fun e => h1 e.1)]
    rfl
theorem progL_no {l : List In} {i : Nat} {a : In} (h : l[i]? = some a) (hn : ¬ (i < 1000 ∧ rightB a = true)) : progL (l.take (i + 1)) = progL (l.take i) := by
  rw [progL_step h, if_neg hn, List.append_nil]
theorem progL_yes {l : List In} {i : Nat} {a : In} (h : l[i]? = some a) (h1 : i < 1000) (h2 : rightB a = true) : progL (l.take (i + 1)) = progL (l.take i) ++ [a] := by
  rw [progL_step h, if_pos ⟨h1, h2⟩]
theorem progL_len (l : List In) : (progL l).length ≤ 1000 := by unfold progL; exact Nat.le_trans (List.length_filter_le ..) (by rw [List.length_take]; omega)
theorem progB_app (a b : List In) : progB (a ++ b) = progB a ++ progB b := by unfold progB; rw [List.flatMap_append]
theorem bc_app (a b : List Nat) : bc (a ++ b) = bc a ++ bc b := List.map_append
set_option maxHeartbeats 4000000 in
set_option maxRecDepth 100000 in
theorem code25_any {w : World} (l : List In) (S : Nat → Prop) (v : Value) (hs : Sl w S 5 v l.length (icells l)) (hl : l.length ≤ 100000) :
    Calls Tryz.prog 70 #[v] w (RetSl fun bv w' => Own w' (fun k => w.heap.size ≤ k) 5 1 bv (progB (progL l)).length (bc (progB (progL l))) ∧ Chg NoB w w') := by
  obtain ⟨vp, vc, hvf⟩ := hs.form
  subst hvf
  have hI := (InsAt.of hs hl)
  obtain ⟨p', c', hpe, hI⟩ := hI
  cases hpe
  have HI := Lib.hid hI
  have HRR := Lib.hid fun (i : In) w' => rright_any i w'
  obtain ⟨i0, hi0, hz0, hz1, hz2⟩ := info_parts b_elem
  have HIF := Lib.hid (And.intro hi0 (And.intro hz0 (And.intro hz1 hz2)))
  clear hI hi0 hz0 hz1 hz2 hs
  go_enter Tryz.func70, Tryz.ntmps70
  go_wp2_with fail
  go_loopg [3, 8] l.length (fun k b iv wr => ∃ i : Nat, i + k = l.length ∧ iv = .int .i64 i ∧ Own wr (fun k => w.heap.size ≤ k) 5 1 b (progB (progL (l.take i))).length (bc (progB (progL (l.take i)))) ∧ Chg NoB w wr)
  case atStart => exact ⟨0, by omega, rfl, Own.nil _ _ _ _, Chg.refl NoB w⟩
  case round =>
    obtain ⟨i, hik, rfl, hO, hC⟩ := hrel
    obtain ⟨bp, bcap, hb⟩ := hO.form
    subst hb
    have HO := Lib.hid hO
    have HC := Lib.hid hC
    have HIK := Lib.hid hik
    clear hO
    by_cases hi : i < l.length
    · obtain ⟨a, ha⟩ : ∃ a, l[i]? = some a := ⟨l[i], List.getElem?_eq_getElem hi⟩
      obtain ⟨g, of, rfl, hg, x0, x1, x2, x3, x4⟩ := (HI.out.chg0 hC).at ha
      have hcap := HI.out.cap
      have n0 : (0 : Int) ≤ i := by omega
      have n1 : IntKind.i64.wrap (i : Int) = i := IntWalk.i64_in _ (by omega)
      have n2 : (i : Int).toNat = i := Int.toNat_natCast i
      have t1 : decide ((i : Int) < l.length) = true := decide_eq_true (by omega)
      have q2 : IntKind.i64.wrap ((i : Int) + 1) = ((i + 1 : Nat) : Int) := IntWalk.i64_in _ (by omega)
      have HA := Lib.hid ha
      have HIL := Lib.hid hi
      clear hC hik ha hi hl
      by_cases hk : i < 1000
      · have t2 : decide ((i : Int) < 1000) = true := decide_eq_true (by omega)
        have HK' := Lib.hid hk
        clear hk
        go_upto_region 5 with fail
        have B0 := Blk.new wr #[.int .i64 a.op, .int .i64 a.rd, .int .i64 a.rs, .int .i64 a.rt, .int .i64 a.im] 73
        have A0 := (Chg.refl NoB wr).alloc (.cells #[.int .i64 a.op, .int .i64 a.rd, .int .i64 a.rs, .int .i64 a.rt, .int .i64 a.im] 73)
        generalize wr.alloc (.cells #[.int .i64 a.op, .int .i64 a.rd, .int .i64 a.rs, .int .i64 a.rt, .int .i64 a.im] 73) = wa at *
        obtain ⟨ab, hab⟩ : ∃ ab, wr.heap.size = ab := ⟨_, rfl⟩
        rw [hab] at B0
        simp only [hab]
        have bE := B0.ever
        have bL := B0.everL
        have HA0 := Lib.hid A0
        have y0 := B0.cell
        have yl := B0.lt
        clear A0 B0 hab x0 x1 x2 x3 x4 hg
        have HRA := Lib.hid (fun w' => HRR.out a w')
        obtain ⟨rb, hrb⟩ : ∃ b, rightB a = b := ⟨_, rfl⟩
        rw [hrb] at HRA
        have HRB := Lib.hid hrb
        clear hrb
        cases rb with
        | false =>
          have HS1 := Lib.hid (progL_no HA.out fun e => Bool.false_ne_true (HRB.out.symm.trans e.2))
          go_wp2_with (refine (HRA.out _).mono ?_; rintro e w7 ⟨rfl, c7⟩)
          go_roundg (l.length - (i + 1))
          case rel => exact ⟨i + 1, by have := HIL.out; omega, by go_num, by rw [HS1.out]; exact (HO.out.chg0 HA0.out).chg0 c7, (HC.out.step HA0.out).step c7⟩
          case measure => have := HIK.out; have := HIL.out; omega
        | true =>
          have HS1 := Lib.hid (progL_yes HA.out HK'.out HRB.out)
          go_wp2_with fail
          refine (HRA.out _).mono ?_
          rintro e w7 ⟨rfl, c7⟩
          have HC7 := Lib.hid c7
          have HPu := Lib.hid (fun w' => rPut_any a (In.ok HRB.out) w')
          have y0 := bE w7 c7
          have yl := bL w7 c7
          clear c7
          go_wp2_with fail
          refine (HPu.out _).mono ?_
          rintro e w8 ⟨rfl, c8⟩
          have HC8 := Lib.hid c8
          have hwl := instW_lt (In.ok HRB.out)
          have HB8 := Lib.hid (fun w' => rBytes_any (instW a) hwl w')
          have q3 : IntKind.u64.wrap ((instW a : Nat) : Int) = ((instW a : Nat) : Int) := by rw [IntKind.wrap_u64]; omega
          clear c8 y0 yl bE bL hwl HPu
          go_wp2_with fail
          refine (HB8.out _).mono ?_
          rintro e w9 ⟨v9, rfl, hO9, c9⟩
          have HC9 := Lib.hid ((HA0.out.step HC7.out).step (HC8.out.step c9))
          have oA := HO.out.chg0 HC9.out
          have sB := hO9.sl
          have one1 := bc_one (bytesW (instW a) 4)
          have hln : (progB (progL (l.take i))).length ≤ 4000 := by rw [progB_len]; have := progL_len (l.take i); omega
          have b1 : (progB (progL (l.take i))).length + 4 ≤ maxLen := by unfold maxLen; omega
          have b2 : ((progB (progL (l.take i))).length + 4) * 1 ≤ 140737488355328 := by omega
          obtain ⟨hi0, hz0, hz1, hz2⟩ := HIF.out
          clear c9 hln
          go_wp2_with (at_builtin; go_must (refine wpList_app rfl _ _ 48 rfl i0 _ 1 Tryz.underlying48 hi0 hz0 hz1 hz2 rfl rfl oA _ 4 _ rfl sB one1 b1 b2 ?_))
          intro v10 w10 o10 g10 _
          have HO10 := Lib.hid o10
          have HG10 := Lib.hid g10
          clear oA sB one1 b1 b2 hi0 hz0 hz1 hz2 o10 g10 hO9
          go_wp2_with fail
          go_roundg (l.length - (i + 1))
          case rel =>
            refine ⟨i + 1, by have := HIL.out; omega, by go_num, ?_, ?_⟩
            · have e : bc (progB (progL (l.take (i + 1)))) = bc (progB (progL (l.take i))) ++ bc (bytesW (instW a) 4) := by
                rw [HS1.out, progB_app, bc_app]
                rfl
              have e2 : (progB (progL (l.take (i + 1)))).length = (progB (progL (l.take i))).length + 4 := by
                rw [HS1.out, progB_app, List.length_append]; rfl
              rw [e, e2]
              refine HO10.out.mono fun k hk => ?_
              rcases hk with hk | hk
              · exact (HO.out.ownBlock k hk).1
              · have := (HC.out.step HC9.out).size
                omega
            · refine (HC.out.step HC9.out).trans (grown_chg (S := fun k => (Value.slice bp (progB (progL (l.take i))).length bcap).ownBlock = some k) HG10.out fun k hk => hk) fun k hk e => ?_
              have := (HO.out.ownBlock k e).1
              omega
          case measure => have := HIK.out; have := HIL.out; omega
      · have t2 : decide ((i : Int) < 1000) = false := decide_eq_false (by omega)
        have HS1 := Lib.hid (progL_no HA.out fun e => hk e.1)
        clear hk
        go_wp2_with fail
        go_roundg (l.length - (i + 1))
        case rel => exact ⟨i + 1, by have := HIL.out; omega, by go_num, by rw [HS1.out]; exact HO.out.chg0 ((Chg.refl NoB wr).alloc _), HC.out.alloc _⟩
        case measure => have := HIK.out; have := HIL.out; omega
    · have e : i = l.length := by omega
      subst e
      rw [List.take_length] at HO
      have t1 : decide ((l.length : Int) < l.length) = false := decide_eq_false (by omega)
      have t2 : decide (l.length < l.length) = false := decide_eq_false (by omega)
      have hln : (progB (progL l)).length ≤ 4000 := by rw [progB_len]; have := progL_len l; omega
      clear hC hik hi hl
      simp only [List.take_length]
      go_wp2_with fail
      go_ret
      exact ⟨_, rfl, HO.out, HC.out⟩
theorem INSTi : (Tryz.prog.info? 73).map (fun i => (i.zero, i.size, i.bytes)) = some (some (.agg #[.int .i64 0, .int .i64 0, .int .i64 0, .int .i64 0, .int .i64 0]), 5, 40) := by kernel_rfl
/-- The two instructions ahead of a node's program: r1 is the first shared page. -/
def preI : List In := [⟨1, 1, 0, 0, 1⟩, ⟨3, 1, 1, 0, 30⟩]
set_option maxHeartbeats 2000000 in
set_option maxRecDepth 100000 in
theorem program_any {w : World} (l : List In) (S : Nat → Prop) (v : Value) (hs : Sl w S 5 v l.length (icells l)) (hl : l.length ≤ 90000) :
    Calls Tryz.prog 35 #[v] w (RetSl fun bv w' => Own w' (fun k => w.heap.size ≤ k) 5 1 bv (progB (progL (preI ++ l))).length (bc (progB (progL (preI ++ l)))) ∧ Chg NoB w w') := by
  obtain ⟨vp, vc, hvf⟩ := hs.form
  subst hvf
  have ca : Chg NoB w (w.alloc (.cells #[.int .i64 1, .int .i64 1, .int .i64 0, .int .i64 0, .int .i64 1, .int .i64 3, .int .i64 1, .int .i64 1, .int .i64 0, .int .i64 30] 73)) := (Chg.refl NoB w).alloc _
  have oX : Own (w.alloc (.cells #[.int .i64 1, .int .i64 1, .int .i64 0, .int .i64 0, .int .i64 1, .int .i64 3, .int .i64 1, .int .i64 1, .int .i64 0, .int .i64 30] 73)) (fun k => k = w.heap.size) 73 5 (.slice (some ⟨w.heap.size, 0, none⟩) 2 2) 2 (icells preI) := Own.fresh w (icells preI) 73 2 rfl (by decide)
  have sX := hs.chg0 ca
  have HCA := Lib.hid ca
  have one := icells_one l
  have b1 : 2 + l.length ≤ maxLen := by unfold maxLen; omega
  have b2 : (2 + l.length) * 40 ≤ 140737488355328 := by omega
  obtain ⟨i0, hi0, hz0, hz1, hz2⟩ := info_parts INSTi
  have HL := Lib.hid hl
  clear hs ca hl
  go_enter Tryz.func35, Tryz.ntmps35
  go_wp2_with (at_builtin; go_must (refine wpList_app rfl _ _ 74 rfl i0 _ 40 Tryz.underlying74 hi0 hz0 hz1 hz2 rfl rfl oX _ l.length _ rfl sX one b1 b2 ?_))
  intro v' w5 ho hg hn
  have C5 : Chg NoB w w5 := HCA.out.trans (grown_chg (S := fun k => k = w.heap.size) hg fun k hk => by simp [Value.ownBlock] at hk; exact hk.symm) fun k hk e => by have e : k = w.heap.size := e; omega
  have hlen : (preI ++ l).length = 2 + l.length := by rw [List.length_append]; rfl
  have hcd := code25_any (preI ++ l) _ v' (by rw [icells_app, hlen]; exact ho.sl) (by rw [hlen]; have := HL.out; omega)
  have HCd := Lib.hid hcd
  have HC5 := Lib.hid C5
  clear hi0 hz0 hz1 hz2 one b1 b2 oX sX ho hg hn C5 hlen hcd
  go_wp2_with fail
  with_reducible refine HCd.out.mono ?_
  rintro e w6 ⟨bv, rfl, hO, C6⟩
  have HO := Lib.hid (And.intro (hO.mono (S' := fun k => w.heap.size ≤ k) fun k hk => Nat.le_trans HC5.out.size hk) (HC5.out.step C6))
  clear hO C6
  go_wp2_with fail
  go_ret
  exact ⟨_, rfl, HO.out.1, HO.out.2⟩
end Go.Proofs.YtleilfkcjollaaaGreat
set_option linter.unusedVariables false
set_option linter.unusedSimpArgs false
namespace Go.Proofs.YtleilfkcjollaaaGreat
open Go.RowKit Go.RR
/-- The program's own part. -/
def addsI : List In := [⟨1, 2, 0, 0, 1⟩, ⟨33, 3, 1, 2, 0⟩, ⟨0, 0, 0, 0, 0⟩]
theorem ad_do (X : Cx) {s : Spc} {t1 t0 : Nat → Option Nat} (h : SpInv s t1 t0) {f o : Nat} (hf : frameOf s (0 : Nat) = some f) (hr : rightOf s (0 : Nat) = 2) (ho : o < 4096) (h8 : o % 8 = 0) {c : Cor} {i : In} (hop : i.op = 33) (ha : (c.r i.rs.toNat + uof i.im) % 18446744073709551616 = 1073741824 + o) (pick : Int) :
    ∃ b, Coh b s.lf ∧ doF X c s.u i pick = (⟨true, i, c.pc, -1, 2, 1073741824 + o, 8, getW s.u.b (f * 4096 + o) 8, cutF (turnF 33 (c.r i.rt.toNat) (getW s.u.b (f * 4096 + o) 8)) 8⟩, { (c.set i.rd (getW s.u.b (f * 4096 + o) 8)) with pc := (c.pc + 4) % 18446744073709551616 }, { s.u with tlb := b, b := putW s.u.b (f * 4096 + o) 8 (turnF 33 (c.r i.rt.toNat) (getW s.u.b (f * 4096 + o) 8)) }) := by
  obtain ⟨op, rd, rs, rt, im⟩ := i
  subst hop
  obtain ⟨b, hb, e⟩ := swap_shared h (p := 0) (by omega) hf (by rw [hr]; decide) ho h8 (turnF 33 (c.r rt.toNat)) pick
  rw [show 1073741824 + 0 * 4096 + o = 1073741824 + o by omega, if_pos hr] at e
  refine ⟨b, hb, ?_⟩
  have ed : doF X c s.u ⟨33, rd, rs, rt, im⟩ pick = overF c s.u ⟨33, rd, rs, rt, im⟩ pick := rfl
  rw [ed]
  unfold overF
  dsimp only at ha ⊢
  rw [show kd 33 = .A from rfl, show sizeI 33 = 8 from rfl, ha, e, if_neg (by decide), if_neg (by decide), if_neg (by simp)]
  rfl
end Go.Proofs.YtleilfkcjollaaaGreat
