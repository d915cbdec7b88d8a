/- Words stored into shared pages, and what a core makes of them. Plain, no program. No condition. The reference's Get of eight bytes. No condition. -/
import Derived.Test.YthceikgkaellkaaGreatHi
import Derived.Test.YthceikgkaellkaaGreatHk
set_option linter.unusedVariables false
set_option linter.unusedSimpArgs false
namespace Go.Proofs.YthceikgkaellkaaGreat
open Go.RowKit Go.RR
theorem shared_va {p o : Nat} (hp : p < 65536) (ho : o < 4096) : vpn (1073741824 + p * 4096 + o) = 262144 + p ∧ canonB (1073741824 + p * 4096 + o) = true ∧ (1073741824 + p * 4096 + o) % 4096 = o := by
  refine ⟨by unfold vpn; omega, ?_, by omega⟩
  unfold canonB
  rw [decide_eq_true (by omega)]
  rfl
theorem ent_ppn (r : Int) (f : Nat) : (ent r f).ppn = f := by unfold ent; split <;> rfl
theorem check_ent (r : Int) (f : Nat) : checkB (ent r f) 2 ⟨true, false, false⟩ = decide (r = 2) := by
  unfold ent
  by_cases h : r = 2
  · rw [if_pos h, decide_eq_true h]; rfl
  · rw [if_neg h, decide_eq_false h]; rfl
/-- A word is stored into a shared page: refused if it may only be read. -/
theorem store_shared {s : Spc} {t1 t0 : Nat → Option Nat} (h : SpInv s t1 t0) {p f o : Nat} (hp : p < 65536) (hf : frameOf s p = some f) (hr : rightOf s p ≠ 0) (ho : o < 4096) (h8 : o % 8 = 0) (v : Nat) (pick : Int) :
    ∃ b, Coh b s.lf ∧ storeF s.u (1073741824 + p * 4096 + o) 8 v pick = (if rightOf s p = 2 then (-1, { s.u with tlb := b, b := putW s.u.b (f * 4096 + o) 8 v }) else (15, { s.u with tlb := b })) := by
  obtain ⟨e1, e2, e3⟩ := shared_va hp ho
  have ha : alignedB (1073741824 + p * 4096 + o) 8 = true := by
    unfold alignedB
    rw [show sizeB 8 = true from rfl, decide_eq_true (by show (1073741824 + p * 4096 + o) % 8 = 0; omega)]
    rfl
  have hl := lf_at h.cl h.ol hf
  rw [if_neg hr, ← e1] at hl
  obtain ⟨b, hb, e⟩ := (store_uo h.un e2 ha v pick).2 _ hl
  refine ⟨b, hb, ?_⟩
  have hck : checkB (ent (rightOf s p) f) 2 s.u.mode = decide (rightOf s p = 2) := by rw [h.mode]; exact check_ent _ _
  rw [e, e3, ent_ppn, hck]
  by_cases h2 : rightOf s p = 2
  · rw [if_pos h2, decide_eq_true h2, if_pos rfl]; rfl
  · rw [if_neg h2, decide_eq_false h2, if_neg (by simp)]
theorem swap_shared {s : Spc} {t1 t0 : Nat → Option Nat} (h : SpInv s t1 t0) {p f o : Nat} (hp : p < 65536) (hf : frameOf s p = some f) (hr : rightOf s p ≠ 0) (ho : o < 4096) (h8 : o % 8 = 0) (g : Nat → Nat) (pick : Int) :
    ∃ b, Coh b s.lf ∧ swapF s.u (1073741824 + p * 4096 + o) 8 g pick = (if rightOf s p = 2 then ((getW s.u.b (f * 4096 + o) 8, -1), { s.u with tlb := b, b := putW s.u.b (f * 4096 + o) 8 (g (getW s.u.b (f * 4096 + o) 8)) }) else ((0, 15), { s.u with tlb := b })) := by
  obtain ⟨e1, e2, e3⟩ := shared_va hp ho
  have ha : alignedB (1073741824 + p * 4096 + o) 8 = true := by
    unfold alignedB
    rw [show sizeB 8 = true from rfl, decide_eq_true (by show (1073741824 + p * 4096 + o) % 8 = 0; omega)]
    rfl
  have hl := lf_at h.cl h.ol hf
  rw [if_neg hr, ← e1] at hl
  obtain ⟨b, hb, e⟩ := (swap_uo h.un e2 ha g pick).2 _ hl
  refine ⟨b, hb, ?_⟩
  have hck : checkB (ent (rightOf s p) f) 2 s.u.mode = decide (rightOf s p = 2) := by rw [h.mode]; exact check_ent _ _
  rw [e, e3, ent_ppn, hck]
  by_cases h2 : rightOf s p = 2
  · rw [if_pos h2, decide_eq_true h2, if_pos rfl]; rfl
  · rw [if_neg h2, decide_eq_false h2, if_neg (by simp)]
/-- Two words that go over a shared page: sd, swap.d. -/
def againI (swap : Bool) : In := if swap then ⟨31, 3, 1, 2, 0⟩ else ⟨29, 0, 1, 2, 0⟩
theorem again_r (swap : Bool) : rightB (againI swap) = true := by cases swap <;> decide
theorem again_k (swap : Bool) : kd (againI swap).op = if swap then .A else .S := by cases swap <;> decide
/-- Where such an instruction goes, and what it does, before the page may be written and behind. -/
theorem again_do (X : Cx) (swap : Bool) {s : Spc} {t1 t0 : Nat → Option Nat} (h : SpInv s t1 t0) {p f o : Nat} (hp : p < 65536) (hf : frameOf s p = some f) (hr : rightOf s p ≠ 0) (ho : o < 4096) (h8 : o % 8 = 0) {c : Cor} {v : Nat} (h1 : c.r 1 = 1073741824 + p * 4096 + o) (h2 : c.r 2 = v) (hv : v < 18446744073709551616) (pick : Int) :
    ∃ b, Coh b s.lf ∧ doF X c s.u (againI swap) pick =
      (if rightOf s p = 2 then (⟨true, againI swap, c.pc, -1, 2, 1073741824 + p * 4096 + o, 8, if swap then getW s.u.b (f * 4096 + o) 8 else 0, v⟩,
        { (if swap then c.set 3 (getW s.u.b (f * 4096 + o) 8) else c) with pc := (c.pc + 4) % 18446744073709551616 }, { s.u with tlb := b, b := putW s.u.b (f * 4096 + o) 8 v })
      else (⟨false, againI swap, c.pc, 15, 2, 1073741824 + p * 4096 + o, 8, 0, 0⟩, c, { s.u with tlb := b })) := by
  have had : (1073741824 + p * 4096 + o + uof 0) % 18446744073709551616 = 1073741824 + p * 4096 + o := by
    show (1073741824 + p * 4096 + o + 0) % _ = _
    omega
  cases swap with
  | false =>
    obtain ⟨b, hb, e⟩ := store_shared h hp hf hr ho h8 v pick
    refine ⟨b, hb, ?_⟩
    have ed : doF X c s.u (againI false) pick = overF c s.u (againI false) pick := rfl
    rw [ed]
    unfold overF
    have ek : kd (againI false).op = .S := rfl
    have es : sizeI (againI false).op = 8 := rfl
    have e1 : c.r (againI false).rs.toNat = 1073741824 + p * 4096 + o := h1
    have e2 : c.r (againI false).rt.toNat = v := h2
    have e3 : uof (againI false).im = uof 0 := rfl
    have ec : cutF v 8 = v := by
      unfold cutF
      rw [if_pos (by decide)]
      exact Nat.mod_eq_of_lt hv
    dsimp only
    rw [ek, es, e1, e2, e3, had, e]
    by_cases hq : rightOf s p = 2
    · simp only [if_pos hq, ec, ne_eq, not_true_eq_false, if_false, reduceCtorEq, Bool.false_eq_true, if_true]
    · simp only [if_neg hq]
      simp
  | true =>
    obtain ⟨b, hb, e⟩ := swap_shared h hp hf hr ho h8 (turnF 31 v) pick
    refine ⟨b, hb, ?_⟩
    have ed : doF X c s.u (againI true) pick = overF c s.u (againI true) pick := rfl
    rw [ed]
    unfold overF
    have ek : kd (againI true).op = .A := rfl
    have es : sizeI (againI true).op = 8 := rfl
    have e1 : c.r (againI true).rs.toNat = 1073741824 + p * 4096 + o := h1
    have e2 : c.r (againI true).rt.toNat = v := h2
    have e3 : uof (againI true).im = uof 0 := rfl
    have eo : (againI true).op = 31 := rfl
    have et : ∀ x, turnF 31 v x = v := fun x => rfl
    have ec : cutF v 8 = v := by
      unfold cutF
      rw [if_pos (by decide)]
      exact Nat.mod_eq_of_lt hv
    have el : ∀ x, toldF (againI true).op x = x := fun x => rfl
    have ex : (againI true).rd = 3 := rfl
    dsimp only
    rw [ek, es, e1, e2, e3, had, eo, e]
    by_cases hq : rightOf s p = 2
    · simp only [if_pos hq, ec, et, ne_eq, not_true_eq_false, if_false, reduceCtorEq, if_true, ex]
      rfl
    · simp only [if_neg hq]
      simp
end Go.Proofs.YthceikgkaellkaaGreat
set_option linter.unusedVariables false
set_option linter.unusedSimpArgs false
namespace Go.Proofs.YthceikgkaellkaaGreat
open Go.RowKit Go.RR
set_option maxHeartbeats 1000000 in
set_option maxRecDepth 100000 in
theorem rSize8 (w : World) : Calls Tryz.prog 60 #[.int .i64 8] w (RetW (.bool true) fun w' => Chg NoB w w') := by
  have hB := Blk.new w #[.int .i64 1, .int .i64 2, .int .i64 4, .int .i64 8] 3
  have k0 : Chg NoB w (w.alloc (.cells #[.int .i64 1, .int .i64 2, .int .i64 4, .int .i64 8] 3)) := (Chg.refl NoB w).alloc _
  go_enter Tryz.func60, Tryz.ntmps60
  go_wp2_with fail
  generalize w.alloc (.cells #[.int .i64 1, .int .i64 2, .int .i64 4, .int .i64 8] 3) = w1 at *
  have HC := Lib.hid k0
  have g := hB.cell
  have gl := hB.lt
  clear k0
  go_loopg [7] 3 (fun k i wr => wr = w1 ∧ ((k = 3 ∧ i = .int .i64 0) ∨ (k = 2 ∧ i = .int .i64 1) ∨ (k = 1 ∧ i = .int .i64 2) ∨ (k = 0 ∧ i = .int .i64 3)))
  case atStart => exact ⟨rfl, .inl ⟨rfl, rfl⟩⟩
  case round =>
    obtain ⟨rfl, ⟨hk, rfl⟩ | ⟨hk, rfl⟩ | ⟨hk, rfl⟩ | ⟨hk, rfl⟩⟩ := hrel
    · subst hk
      go_wp2_with fail
      go_roundg 2
      case rel => exact ⟨rfl, .inr (.inl ⟨rfl, rfl⟩)⟩
      case measure => omega
    · subst hk
      go_wp2_with fail
      go_roundg 1
      case rel => exact ⟨rfl, .inr (.inr (.inl ⟨rfl, rfl⟩))⟩
      case measure => omega
    · subst hk
      go_wp2_with fail
      go_roundg 0
      case rel => exact ⟨rfl, .inr (.inr (.inr ⟨rfl, rfl⟩))⟩
      case measure => omega
    · go_wp2_with fail
      go_ret
      exact ⟨rfl, HC.out⟩
theorem getW_snoc (f : By) : ∀ (n a : Nat), getW f a (n + 1) = getW f a n + f (a + n) * 256 ^ n
  | 0, a => by
    show f a + 256 * 0 = 0 + f (a + 0) * 256 ^ 0
    simp
  | n + 1, a => by
    have h := getW_snoc f n (a + 1)
    show f a + 256 * getW f (a + 1) (n + 1) = (f a + 256 * getW f (a + 1) n) + f (a + (n + 1)) * 256 ^ (n + 1)
    rw [h, show a + 1 + n = a + (n + 1) by omega, Nat.pow_succ, Nat.mul_add, ← Nat.add_assoc]
    congr 1
    rw [Nat.mul_comm 256, Nat.mul_assoc]
set_option maxHeartbeats 2000000 in
set_option maxRecDepth 100000 in
theorem rGet8_any {w : World} {S : Nat → Prop} {v : Value} {F : By} (hF : ByOk F) (hs : Sl w S 1 v 4096 (bcells F 4096)) (at' : Nat) (h8 : at' + 8 ≤ 4096) : Calls Tryz.prog 22 #[v, .int .i64 at', .int .i64 8] w (RetW (.tuple #[.int .u64 (getW F at' 8), .bool true]) fun w' => Chg NoB w w') := by
  have HS := Lib.hid rSize8
  obtain ⟨-, p, cap, rfl, hcap, hsp⟩ := hs
  obtain ⟨g, off, rfl, -, hg, hc⟩ := hsp (by omega)
  have hc' : ∀ w', Chg NoB w w' → ∀ j, j < 4096 → w'.cell? ⟨g, off + j, none⟩ = some (.int .u8 (F j)) := fun w' k j hj => k.cell (hc j _ (bcells_get hj)) id
  have hg' : ∀ w', Chg NoB w w' → g < w'.heap.size := fun w' k => Nat.lt_of_lt_of_le hg k.size
  have HCc := Lib.hid hc'
  have HG := Lib.hid hg'
  have HF := Lib.hid hF
  have t1 : decide ((at' : Int) < 0) = false := decide_eq_false (by omega)
  have t2 : decide ((4096 : Int) < at') = false := decide_eq_false (by omega)
  have t3 : decide ((4096 : Int) - at' < 8) = false := decide_eq_false (by omega)
  have H8 := Lib.hid h8
  clear hsp hc hc' hg' hF hg
  go_enter Tryz.func22, Tryz.ntmps22
  go_wp2_with fail
  refine (HS.out _).mono ?_
  rintro e w1 ⟨rfl, c1⟩
  have HC1 := Lib.hid c1
  clear c1
  go_wp2_with fail
  go_loopg [8, 9, 10] 8 (fun k v f iv wr => wr = w1 ∧ ∃ (i y : Nat), i + k = 8 ∧ iv = .int .i64 i ∧ v = .int .u64 (getW F at' i) ∧ f = .int .u64 y ∧ (i < 8 → y = 256 ^ i))
  case atStart => exact ⟨rfl, 0, 1, by omega, rfl, rfl, rfl, fun _ => rfl⟩
  case round =>
    obtain ⟨rfl, i, y, hik, rfl, rfl, rfl, hy⟩ := hrel
    by_cases hi : i < 8
    · have hy := hy hi
      have t4 : decide ((i : Int) < 8) = true := decide_eq_true (by omega)
      have b1 : F (at' + i) < 256 := HF.out _
      have hpl : y ≤ 72057594037927936 := by
        rw [hy]
        exact Nat.le_trans (Nat.pow_le_pow_right (by omega) (by omega : i ≤ 7)) (by decide)
      have hgl : getW F at' i < y := by rw [hy]; exact getW_lt HF.out i at'
      have hsn : getW F at' (i + 1) = getW F at' i + F (at' + i) * y := by rw [hy]; exact getW_snoc F i at'
      have hml : F (at' + i) * y ≤ 255 * y := Nat.mul_le_mul_right _ (by omega)
      have hny : i + 1 < 8 → y * 256 % 18446744073709551616 = 256 ^ (i + 1) := fun h => by
        rw [hy, Nat.pow_succ]
        refine Nat.mod_eq_of_lt ?_
        rw [← Nat.pow_succ]
        exact Nat.lt_of_le_of_lt (Nat.pow_le_pow_right (by omega) (by omega : i + 1 ≤ 7)) (by decide)
      obtain ⟨z, hz⟩ : ∃ z, F (at' + i) * y = z := ⟨_, rfl⟩
      obtain ⟨m, hm⟩ : ∃ m, getW F at' i = m := ⟨_, rfl⟩
      obtain ⟨d, hd⟩ : ∃ d, F (at' + i) = d := ⟨_, rfl⟩
      have x0 := HCc.out _ HC1.out (at' + i) (by have := H8.out; omega)
      have xl := HG.out _ HC1.out
      rw [hd] at x0 hz b1 hml
      rw [hm] at hgl hsn
      rw [hd, hz] at hsn
      rw [hz] at hml
      have q1 : IntKind.u64.wrap ((d : Int) * (y : Int)) = (z : Int) := by
        rw [← hz, IntKind.wrap_u64, ← Int.natCast_mul, hz]
        omega
      have q2 : IntKind.u64.wrap ((m : Int) + (z : Int)) = ((m + z : Nat) : Int) := by rw [IntKind.wrap_u64]; omega
      have q3 : IntKind.u64.wrap ((y : Int) * 256) = ((y * 256 % 18446744073709551616 : Nat) : Int) := by rw [IntKind.wrap_u64]; omega
      have q4 : IntKind.i64.wrap ((i : Int) + 1) = ((i + 1 : Nat) : Int) := IntWalk.i64_in _ (by omega)
      have q5 : IntKind.i64.wrap ((at' : Int) + (i : Int)) = ((at' + i : Nat) : Int) := IntWalk.i64_in _ (by have := H8.out; omega)
      have q6 : ((at' + i : Nat) : Int).toNat = at' + i := Int.toNat_natCast _
      have q7 : ((at' + i : Nat) : Int) < 4096 := by have := H8.out; omega
      have HSN := Lib.hid hsn
      have HMM := Lib.hid hm
      have q8 : IntKind.u64.wrap (d : Int) = (d : Int) := by rw [IntKind.wrap_u64]; omega
      have HNY := Lib.hid hny
      have HIK := Lib.hid hik
      have HI := Lib.hid hi
      clear hy hpl hgl hsn hml hny hz hm hd hik hi b1 t1 t2 t3
      go_wp2_with fail
      go_roundg (8 - (i + 1))
      case rel => exact ⟨rfl, i + 1, _, by have := HI.out; omega, by go_num, by rw [HSN.out, HMM.out, q2], rfl, HNY.out⟩
      case measure => have := HI.out; have := HIK.out; omega
    · have e8 : i = 8 := by omega
      subst e8
      clear hi hik hy
      go_wp2_with fail
      go_ret2
      exact ⟨rfl, HC1.out⟩
end Go.Proofs.YthceikgkaellkaaGreat
