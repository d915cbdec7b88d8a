/- Laws of memory that the other texts did not need: clones, pages, stores and swaps over shared pages. Plain and walks. No condition. -/
import Derived.Test.YthceikgkaellkaaGreatHs
import Derived.Test.YthceikgkaellkaaGreatHt
set_option linter.unusedVariables false
namespace Go.Proofs.YthceikgkaellkaaGreat
open Go.RowKit Go.RR


set_option maxHeartbeats 400000 in
set_option maxRecDepth 100000 in
theorem b_clone (S : Nat → Prop) (v : Value) (n : Nat) (us : List Value) (w : World) (hs : Sl w S 1 v n us) (one : ∀ u ∈ us, u.oneCell' = true) (hn : n * 1 ≤ 140737488355328) (hm : n ≤ maxLen) :
    Calls Tryz.prog 109 #[v] w (RetV fun v' w' => Own w' (fun k => w.heap.size ≤ k) 5 1 v' n us ∧ Chg NoB w w') := by
  obtain ⟨i0, hi0, hz0, hz1, hz2⟩ := info_parts b_elem
  have hs' := hs
  obtain ⟨h1, p, cap, rfl, hcap, hc⟩ := hs
  have heq := fun w' => Lib.run_eql_slice_nil (P := Tryz.prog) w' 59 5 p n cap 0 0 Tryz.underlying59
  cases p with
  | none =>
    have h0 : n = 0 := by
      rcases Nat.eq_zero_or_pos n with h | h
      · exact h
      · obtain ⟨_, _, h, _⟩ := hc h; cases h
    subst h0
    obtain rfl : us = [] := List.eq_nil_of_length_eq_zero (by simpa using h1)
    clear hs' hc h1
    go_enter Tryz.func109, Tryz.ntmps109
    go_wp2
    go_ret
    exact ⟨_, rfl, Own.nil _ _ _ _, Chg.refl _ _⟩
  | some a =>
    have o1 : Own (w.alloc (.cells #[] 5)) (fun k => k = w.heap.size) 5 1 (.slice (some ⟨w.heap.size, 0, none⟩) 0 0) 0 [] := Own.fresh w [] 5 0 rfl (by unfold maxLen; omega)
    have s1 := hs'.chg0 ((Chg.refl NoB w).alloc (.cells #[] 5))
    have b1 : 0 + n ≤ maxLen := by omega
    have b2 : (0 + n) * 1 ≤ 140737488355328 := by rw [Nat.zero_add]; exact hn
    clear hs' hc h1
    go_enter Tryz.func109, Tryz.ntmps109
    go_wp2_with (at_builtin; go_must (refine wpList_app rfl _ _ 59 rfl i0 _ 1 Tryz.underlying59 hi0 hz0 hz1 hz2 rfl rfl o1 _ n _ rfl s1 one b1 b2 ?_))
    intro v2 w2 o2 g2 _
    replace o2 : Own w2 (fun k => w.heap.size ≤ k) 5 1 v2 n us := by simpa using o2.mono (S' := fun k => w.heap.size ≤ k) (fun k hk => by simp [Value.ownBlock] at hk; omega)
    have C2 : Chg NoB w w2 := ((Chg.refl NoB w).alloc _).grown g2 (fun k hk => .inr (by simp [Value.ownBlock] at hk; omega))
    clear o1 s1 g2
    go_wp2
    go_ret
    exact ⟨_, rfl, o2, C2⟩
end Go.Proofs.YthceikgkaellkaaGreat
set_option linter.unusedVariables false
set_option linter.unusedSimpArgs false
namespace Go.Proofs.YthceikgkaellkaaGreat
open Go.RowKit Go.RR
set_option maxHeartbeats 4000000 in
set_option maxRecDepth 100000 in
theorem page_any {S : Nat → Prop} {w : World} {mb fr : Nat} {b : By} (h : MemAt w S mb b fr) (f : Nat) (hf : f < fr) :
    Calls Tryz.prog 61 #[.pointer (some ⟨mb, 0, none⟩), .int .i64 f] w (RetV fun r w' => ∃ v, r = .tuple #[v, .int .i64 0] ∧ Own w' (fun k => w.heap.size ≤ k) 5 1 v 4096 (bcells (pgF b f) 4096) ∧ Chg NoB w w') := by
  have H0 := Lib.hid (frame_any h f hf)
  obtain ⟨mp, m, h1, h2, h3, h4, h5, h6⟩ := h
  have e0 := h4.cell' (i := 0) (v := .map (some mp)) rfl
  have hl := h4.lt
  obtain ⟨pi, hpi, pz0, pz1, pz2⟩ := info_parts PPinfo
  have hlk := run_look1 (P := Tryz.prog) Tryz.underlying195 Tryz.underlying3 hpi pz0 h5 f
  cases hm : mlook (pgMap m) f with
  | some v =>
    obtain ⟨g, rfl, hg⟩ := pgMap_look hm
    obtain ⟨g1, g2, g3⟩ := h6.blk _ hg
    have g3 : Blk w g (bcells (pgF b f) 4096).toArray 241 := by
      have : ((f : Nat) : Int).toNat = f := by omega
      rw [← this]
      exact g3
    rw [hm, Option.getD_some] at hlk
    have HC := Lib.hid (b_clone _ (.slice (some ⟨g, 0, none⟩) 4096 4096) 4096 _ w (blk_sl4 g3) (by unfold bcells; simp [Value.oneCell']) (by omega) (by unfold maxLen; omega))
    have hgl := g3.lt
    clear h1 h2 h3 h4 h5 h6 hm hg g1 g2 g3
    go_enter Tryz.func61, Tryz.ntmps61
    go_wp2_with fail
    with_reducible refine H0.out.mono ?_
    rintro e w1 ⟨rfl, hw1⟩
    subst hw1
    go_wp2_with fail
    with_reducible refine HC.out.mono ?_
    rintro e w2 ⟨v2, rfl, O2, C2⟩
    have HO2 := Lib.hid O2
    have HC2 := Lib.hid C2
    obtain ⟨p2, c2, rfl⟩ := O2.form
    clear O2 C2
    go_wp2_with fail
    go_ret2
    exact ⟨_, rfl, _, rfl, HO2.out, HC2.out⟩
  | none =>
    rw [hm, Option.getD_none] at hlk
    have HZ : Hid (bcells (pgF b f) 4096 = bcells (fun _ => 0) 4096) := Lib.hid (bcells_congr fun i hi => h6.no f hm i hi)
    have hmk := mk4096
    clear h1 h2 h3 h4 h5 h6 hm
    obtain ⟨Z, hZ⟩ : ∃ Z, (bcells (fun _ => 0) 4096) = Z := ⟨_, rfl⟩
    rw [hZ] at HZ hmk
    have hZl : Z.length = 4096 := by rw [← hZ, bcells_len]
    have HZL := Lib.hid hZl
    clear hZ hZl
    go_enter Tryz.func61, Tryz.ntmps61
    go_wp2_with fail
    with_reducible refine H0.out.mono ?_
    rintro e w1 ⟨rfl, hw1⟩
    subst hw1
    go_wp2_with fail
    go_ret2
    refine ⟨_, rfl, _, rfl, ?_, ?_⟩
    · rw [HZ.out]
      exact (Own.fresh w1 Z 5 4096 HZL.out (by unfold maxLen; omega)).mono fun k hk => by rw [hk]; exact Nat.le_refl _
    · exact (Chg.refl NoB w1).alloc _
end Go.Proofs.YthceikgkaellkaaGreat
set_option linter.unusedVariables false
set_option linter.unusedSimpArgs false
namespace Go.Proofs.YthceikgkaellkaaGreat
open Go.RowKit Go.RR
/-- A page's bytes. -/
def dataF (s : Spc) (p : Int) : By := match frameOf s p with | some f => pgF s.u.b f | none => fun _ => 0
set_option maxHeartbeats 1000000 in
set_option maxRecDepth 100000 in
theorem data_any {w : World} {L : Pl} {s : Spc} (h : SpAt w L s) (p : Int) (hp : 0 ≤ p) (hp2 : p < s.shape.shared) (hfr : ∀ f, frameOf s p = some f → f < s.u.fr) :
    Calls Tryz.prog 23 #[.pointer (some ⟨L.pb, 0, none⟩), .int .i64 p] w (RetV fun v w' => Own w' (fun k => w.heap.size ≤ k) 5 1 v 4096 (bcells (dataF s p) 4096) ∧ Chg NoB w w') := by
  have HT := Lib.hid (sThere_any h p hp hp2)
  have f3 := h.blk.cell' (i := 3) (v := .pointer (some ⟨L.mb, 0, none⟩)) rfl
  have f10 := h.blk.cell' (i := 10) (v := .map (some L.xb)) rfl
  have fl := h.blk.lt
  obtain ⟨i0, hi0, hz0, hz1, hz2⟩ := info_parts INTi
  have hl := run_look2 (P := Tryz.prog) Tryz.underlying119 Tryz.underlying3 hi0 hz0 h.sh p
  rw [shm_look] at hl
  have H := Lib.hid h
  cases hf : frameOf s p with
  | none =>
    rw [show (s.shared.find? fun x => x.1 == p).map (·.2) = none from hf] at hl
    simp only [Option.map_none, Option.getD_none, Option.isSome_none] at hl
    have HD : Hid (dataF s p = fun _ => 0) := Lib.hid (by unfold dataF; rw [hf])
    clear h hp hp2 hfr hi0 hz0 hz1 hz2 hf
    go_enter Tryz.func23, Tryz.ntmps23
    go_wp2_with fail
    refine HT.out.mono ?_
    rintro e w1 ⟨rfl, rfl⟩
    have mk := mk4096
    go_wp2_with fail
    go_ret
    have ho := Own.fresh (size := 1) w1 (bcells (fun _ => 0) 4096) 5 4096 (by rw [bcells_len]) (by decide)
    exact ⟨_, rfl, by rw [HD.out]; exact ho.mono fun k (e : k = _) => by omega, (Chg.refl NoB w1).alloc _⟩
  | some f =>
    rw [show (s.shared.find? fun x => x.1 == p).map (·.2) = some f from hf] at hl
    simp only [Option.map_some, Option.getD_some, Option.isSome_some] at hl
    have HD : Hid (dataF s p = pgF s.u.b f) := Lib.hid (by unfold dataF; rw [hf])
    have HP := Lib.hid (page_any h.mu.mem f (hfr f hf))
    clear h hp hp2 hfr hi0 hz0 hz1 hz2 hf
    go_enter Tryz.func23, Tryz.ntmps23
    go_wp2_with fail
    refine HT.out.mono ?_
    rintro e w1 ⟨rfl, rfl⟩
    go_wp2_with fail
    refine HP.out.mono ?_
    rintro e w1 ⟨r, rfl, v, rfl, hO, hC⟩
    have HO := Lib.hid hO
    have HC := Lib.hid hC
    clear hO hC f3 f10 fl hl
    go_wp2_with fail
    go_ret
    exact ⟨_, rfl, by rw [HD.out]; exact HO.out, HC.out⟩
end Go.Proofs.YthceikgkaellkaaGreat
set_option linter.unusedVariables false
set_option linter.unusedSimpArgs false
namespace Go.Proofs.YthceikgkaellkaaGreat
open Go.RowKit Go.RR
/-! The buffer. -/
/-! A unit whose tables and buffer say the same. -/
theorem store_uo {u : Mu} {t1 t0 : Nat → Option Nat} {lf : Nat → Option Pte} (h : UnOk u t1 t0 lf) {va : Nat} {size : Int} (hc : canonB va = true) (ha : alignedB va size = true) (v : Nat) (pick : Int) :
    (lf (vpn va) = none → storeF u va size v pick = (15, u)) ∧
    (∀ p, lf (vpn va) = some p → ∃ b, Coh b lf ∧ storeF u va size v pick = (if checkB p 2 u.mode then (-1, { u with tlb := b, b := putW u.b (p.ppn * 4096 + va % 4096) size.toNat v }) else (15, { u with tlb := b }))) := by
  obtain ⟨l1, l2⟩ := place_uo h hc ha 2 pick (by decide)
  constructor
  · intro hn
    unfold storeF
    rw [l1 hn]
    rfl
  · intro p hp
    obtain ⟨b, hb, e⟩ := l2 p hp
    refine ⟨b, hb, ?_⟩
    unfold storeF
    rw [e]
    cases checkB p 2 u.mode with
    | false => rfl
    | true => rfl
theorem swap_uo {u : Mu} {t1 t0 : Nat → Option Nat} {lf : Nat → Option Pte} (h : UnOk u t1 t0 lf) {va : Nat} {size : Int} (hc : canonB va = true) (ha : alignedB va size = true) (f : Nat → Nat) (pick : Int) :
    (lf (vpn va) = none → swapF u va size f pick = ((0, 15), u)) ∧
    (∀ p, lf (vpn va) = some p → ∃ b, Coh b lf ∧ swapF u va size f pick = (if checkB p 2 u.mode then ((getW u.b (p.ppn * 4096 + va % 4096) size.toNat, -1), { u with tlb := b, b := putW u.b (p.ppn * 4096 + va % 4096) size.toNat (f (getW u.b (p.ppn * 4096 + va % 4096) size.toNat)) }) else ((0, 15), { u with tlb := b }))) := by
  obtain ⟨l1, l2⟩ := place_uo h hc ha 2 pick (by decide)
  constructor
  · intro hn
    unfold swapF
    rw [l1 hn]
    rfl
  · intro p hp
    obtain ⟨b, hb, e⟩ := l2 p hp
    refine ⟨b, hb, ?_⟩
    unfold swapF
    rw [e]
    cases checkB p 2 u.mode with
    | false => rfl
    | true => rfl
end Go.Proofs.YthceikgkaellkaaGreat
set_option linter.unusedVariables false
set_option linter.unusedSimpArgs false
namespace Go.Proofs.YthceikgkaellkaaGreat
open Go.RowKit Go.RR
theorem shared_va {p o : Nat} (hp : p < 65536) (ho : o < 4096) : vpn (1073741824 + p * 4096 + o) = 262144 + p ∧ canonB (1073741824 + p * 4096 + o) = true ∧ (1073741824 + p * 4096 + o) % 4096 = o := by
  refine ⟨by unfold vpn; omega, ?_, by omega⟩
  unfold canonB
  rw [decide_eq_true (by omega)]
  rfl
theorem ent_ppn (r : Int) (f : Nat) : (ent r f).ppn = f := by unfold ent; split <;> rfl
theorem check_ent (r : Int) (f : Nat) : checkB (ent r f) 2 ⟨true, false, false⟩ = decide (r = 2) := by
  unfold ent
  by_cases h : r = 2
  · rw [if_pos h, decide_eq_true h]; rfl
  · rw [if_neg h, decide_eq_false h]; rfl
/-- A word is stored into a shared page: refused if it may only be read. -/
theorem store_shared {s : Spc} {t1 t0 : Nat → Option Nat} (h : SpInv s t1 t0) {p f o : Nat} (hp : p < 65536) (hf : frameOf s p = some f) (hr : rightOf s p ≠ 0) (ho : o < 4096) (h8 : o % 8 = 0) (v : Nat) (pick : Int) :
    ∃ b, Coh b s.lf ∧ storeF s.u (1073741824 + p * 4096 + o) 8 v pick = (if rightOf s p = 2 then (-1, { s.u with tlb := b, b := putW s.u.b (f * 4096 + o) 8 v }) else (15, { s.u with tlb := b })) := by
  obtain ⟨e1, e2, e3⟩ := shared_va hp ho
  have ha : alignedB (1073741824 + p * 4096 + o) 8 = true := by
    unfold alignedB
    rw [show sizeB 8 = true from rfl, decide_eq_true (by show (1073741824 + p * 4096 + o) % 8 = 0; omega)]
    rfl
  have hl := lf_at h.cl h.ol hf
  rw [if_neg hr, ← e1] at hl
  obtain ⟨b, hb, e⟩ := (store_uo h.un e2 ha v pick).2 _ hl
  refine ⟨b, hb, ?_⟩
  have hck : checkB (ent (rightOf s p) f) 2 s.u.mode = decide (rightOf s p = 2) := by rw [h.mode]; exact check_ent _ _
  rw [e, e3, ent_ppn, hck]
  by_cases h2 : rightOf s p = 2
  · rw [if_pos h2, decide_eq_true h2, if_pos rfl]; rfl
  · rw [if_neg h2, decide_eq_false h2, if_neg (by simp)]
theorem swap_shared {s : Spc} {t1 t0 : Nat → Option Nat} (h : SpInv s t1 t0) {p f o : Nat} (hp : p < 65536) (hf : frameOf s p = some f) (hr : rightOf s p ≠ 0) (ho : o < 4096) (h8 : o % 8 = 0) (g : Nat → Nat) (pick : Int) :
    ∃ b, Coh b s.lf ∧ swapF s.u (1073741824 + p * 4096 + o) 8 g pick = (if rightOf s p = 2 then ((getW s.u.b (f * 4096 + o) 8, -1), { s.u with tlb := b, b := putW s.u.b (f * 4096 + o) 8 (g (getW s.u.b (f * 4096 + o) 8)) }) else ((0, 15), { s.u with tlb := b })) := by
  obtain ⟨e1, e2, e3⟩ := shared_va hp ho
  have ha : alignedB (1073741824 + p * 4096 + o) 8 = true := by
    unfold alignedB
    rw [show sizeB 8 = true from rfl, decide_eq_true (by show (1073741824 + p * 4096 + o) % 8 = 0; omega)]
    rfl
  have hl := lf_at h.cl h.ol hf
  rw [if_neg hr, ← e1] at hl
  obtain ⟨b, hb, e⟩ := (swap_uo h.un e2 ha g pick).2 _ hl
  refine ⟨b, hb, ?_⟩
  have hck : checkB (ent (rightOf s p) f) 2 s.u.mode = decide (rightOf s p = 2) := by rw [h.mode]; exact check_ent _ _
  rw [e, e3, ent_ppn, hck]
  by_cases h2 : rightOf s p = 2
  · rw [if_pos h2, decide_eq_true h2, if_pos rfl]; rfl
  · rw [if_neg h2, decide_eq_false h2, if_neg (by simp)]
end Go.Proofs.YthceikgkaellkaaGreat
