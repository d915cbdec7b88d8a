/- The audit: what is read of a space: frames, used ones, which page an address is in. No condition. The audit: how many frames a space needs; a new home; links. No condition. The audit: a new node: its space, its home, its core, its links. No condition. -/
import Derived.Test.YtleilfkcjollaaaGreatHe
import Derived.Test.YtleilfkcjollaaaGreatGz
import Derived.Test.YtleilfkcjollaaaGreatHa
import Derived.Deep.LoopGhost
import Derived.Test.YtleilfkcjollaaaGreatHb
set_option linter.unusedVariables false
set_option linter.unusedSimpArgs false
namespace Go.Proofs.YtleilfkcjollaaaGreat
open Go.RowKit Go.RR
theorem sFrames_any {w : World} {L : Pl} {s : Spc} (h : SpAt w L s) : Calls Tryz.prog 128 #[.pointer (some ⟨L.pb, 0, none⟩)] w (RetW (.int .i64 s.u.fr) fun w' => w' = w) := by
  have f3 := h.blk.cell' (i := 3) (v := .pointer (some ⟨L.mb, 0, none⟩)) rfl
  have fl := h.blk.lt
  have HF := Lib.hid (frames_any h.mu.mem)
  clear h
  go_enter Tryz.func128, Tryz.ntmps128
  go_wp2_with fail
  refine HF.out.mono ?_
  rintro e w1 ⟨rfl, rfl⟩
  go_wp2_with fail
  go_ret
  exact ⟨rfl, rfl⟩
set_option maxHeartbeats 1000000 in
set_option maxRecDepth 100000 in
theorem which_in {w : World} {L : Pl} {s : Spc} (h : SpAt w L s) (v : Nat) (n : Int) (hv : (v : Int) = 1073741824 + 4096 * n) (h0 : 0 ≤ n) (hn : n ≤ 65536) (hs : s.shape.shared ≤ 65536) (hs0 : 0 ≤ s.shape.shared) (hc : n < s.shape.shared) :
    Calls Tryz.prog 65 #[.pointer (some ⟨L.pb, 0, none⟩), .int .u64 v] w (RetW (.tuple #[.int .i64 n, .bool true]) fun w' => w' = w) := by
  obtain ⟨sh, hsh⟩ : ∃ k, s.shape.shared = k := ⟨_, rfl⟩
  have f2 := h.blk.cell' (i := 2) (v := .int .i64 s.shape.shared) rfl
  rw [hsh] at f2 hs hc hs0
  have fl := h.blk.lt
  have t1 : decide ((v : Int) < 1073741824) = false := decide_eq_false (by omega)
  have q1 : IntKind.u64.wrap ((v : Int) - 1073741824) = 4096 * n := by rw [IntKind.wrap_u64]; omega
  have q2 : IntKind.u64.wrap ((IntKind.u64.wrap ((v : Int) - 1073741824)).tdiv 4096) = n := by rw [q1, Int.tdiv_eq_ediv_of_nonneg (by omega), IntKind.wrap_u64]; omega
  have q3 : IntKind.u64.wrap sh = sh := by rw [IntKind.wrap_u64]; omega
  have t2 : decide (IntKind.u64.wrap sh ≤ IntKind.u64.wrap ((IntKind.u64.wrap ((v : Int) - 1073741824)).tdiv 4096)) = false := by rw [q2, q3]; exact decide_eq_false (by omega)
  have HQ : Hid (wrap64 n = n) := Lib.hid (IntWalk.wrap64_in _ (by omega))
  have HQ2 := Lib.hid q2
  clear h hsh hv h0 hn hs hc q1 q2 q3 hs0
  go_enter Tryz.func65, Tryz.ntmps65
  go_wp2_with fail
  rw [HQ2.out, HQ.out]; go_ret2; exact ⟨rfl, rfl⟩
set_option maxHeartbeats 1000000 in
set_option maxRecDepth 100000 in
theorem which_out {w : World} {L : Pl} {s : Spc} (h : SpAt w L s) (v : Nat) (n : Int) (hv : (v : Int) = 1073741824 + 4096 * n) (h0 : 0 ≤ n) (hn : n ≤ 65536) (hs : s.shape.shared ≤ 65536) (hs0 : 0 ≤ s.shape.shared) (hc : s.shape.shared ≤ n) :
    Calls Tryz.prog 65 #[.pointer (some ⟨L.pb, 0, none⟩), .int .u64 v] w (RetW (.tuple #[.int .i64 0, .bool false]) fun w' => w' = w) := by
  obtain ⟨sh, hsh⟩ : ∃ k, s.shape.shared = k := ⟨_, rfl⟩
  have f2 := h.blk.cell' (i := 2) (v := .int .i64 s.shape.shared) rfl
  rw [hsh] at f2 hs hc hs0
  have fl := h.blk.lt
  have t1 : decide ((v : Int) < 1073741824) = false := decide_eq_false (by omega)
  have q1 : IntKind.u64.wrap ((v : Int) - 1073741824) = 4096 * n := by rw [IntKind.wrap_u64]; omega
  have q2 : IntKind.u64.wrap ((IntKind.u64.wrap ((v : Int) - 1073741824)).tdiv 4096) = n := by rw [q1, Int.tdiv_eq_ediv_of_nonneg (by omega), IntKind.wrap_u64]; omega
  have q3 : IntKind.u64.wrap sh = sh := by rw [IntKind.wrap_u64]; omega
  have t2 : decide (IntKind.u64.wrap sh ≤ IntKind.u64.wrap ((IntKind.u64.wrap ((v : Int) - 1073741824)).tdiv 4096)) = true := by rw [q2, q3]; exact decide_eq_true (by omega)
  have HQ : Hid (wrap64 n = n) := Lib.hid (IntWalk.wrap64_in _ (by omega))
  have HQ2 := Lib.hid q2
  clear h hsh hv h0 hn hs hc q1 q2 q3 hs0
  go_enter Tryz.func65, Tryz.ntmps65
  go_wp2_with fail
  go_ret2; exact ⟨rfl, rfl⟩
set_option maxHeartbeats 1000000 in
set_option maxRecDepth 100000 in
theorem stUsed_any {w : World} {sb mp : Nat} {t : Stk} (h : StkAt w sb mp t) : Calls Tryz.prog 66 #[.pointer (some ⟨sb, 0, none⟩)] w (RetW (.int .i64 t.taken.length) fun w' => w' = w) := by
  have f4 := h.blk.cell' (i := 4) (v := .map (some mp)) rfl
  have fl := h.blk.lt
  have hl := run_maplen (P := Tryz.prog) (ty := 3) Tryz.underlying223 h.map
  have hn : (tkMap t.taken).length = t.taken.length := List.length_map _
  rw [hn] at hl
  clear h hn
  go_enter Tryz.func66, Tryz.ntmps66
  go_wp2_with fail
  go_ret
  exact ⟨rfl, rfl⟩
set_option maxHeartbeats 1000000 in
set_option maxRecDepth 100000 in
theorem sUsed_any {w : World} {L : Pl} {s : Spc} (h : SpAt w L s) : Calls Tryz.prog 32 #[.pointer (some ⟨L.pb, 0, none⟩)] w (RetW (.tuple #[.int .i64 s.stk.taken.length, .int .i64 s.shared.length]) fun w' => Chg NoB w w') := by
  have f4 : ∀ w', Chg NoB w w' → w'.cell? ⟨L.pb, 4, none⟩ = some (.pointer (some ⟨L.sb, 0, none⟩)) := fun w' c => (c.blk0 h.blk).cell' (i := 4) rfl
  have f10 : ∀ w', Chg NoB w w' → w'.cell? ⟨L.pb, 10, none⟩ = some (.map (some L.xb)) := fun w' c => (c.blk0 h.blk).cell' (i := 10) rfl
  have fl : ∀ w', Chg NoB w w' → L.pb < w'.heap.size := fun w' c => (c.blk0 h.blk).lt
  have hn : (shm s.shared).length = s.shared.length := List.length_map _
  have hl : ∀ w', Chg NoB w w' → (Builtin.len_ #[118] 3 #[.map (some L.xb)]).run Tryz.prog w' = .ok (.int .i64 s.shared.length) w' := fun w' c => by
    have := run_maplen (P := Tryz.prog) (ty := 3) Tryz.underlying118 (h.sh.chg c id)
    rwa [hn] at this
  have HU := Lib.hid fun w' (c : Chg NoB w w') => stUsed_any (h.chg0 c).tab.stk
  have c0 := Chg.refl NoB w
  clear h hn
  go_enter Tryz.func32, Tryz.ntmps32
  go_upto_region 3 with fail
  go_region_held3 (fun w' => Chg NoB w w') ((repeat (first | with_reducible assumption | with_reducible apply Chg.drew | with_reducible apply Chg.drewN | with_reducible apply Chg.alloc | with_reducible refine Chg.setCell ?_ (Or.inr (Nat.le_refl _)) _))) (first | (go_at_call 66; (with_reducible refine (HU.out _ (by with_reducible assumption)).mono ?_); rintro e w9 ⟨rfl, hw⟩; subst hw))
  all_goals
    go_wp2_with fail
    go_ret2
    exact ⟨rfl, by with_reducible assumption⟩
set_option maxHeartbeats 2000000 in
set_option maxRecDepth 100000 in
theorem sFind_any {w : World} {L : Pl} {s : Spc} (h : SpAt w L s) (va : Nat) (hv : va < 18446744073709551616) :
    Calls Tryz.prog 60 #[.pointer (some ⟨L.pb, 0, none⟩), .int .u64 va] w (RetW (.tuple #[(findF s.u.b s.u.fr s.root va).1.out, .bool ((findF s.u.b s.u.fr s.root va).2 == 0)]) fun w' => Chg NoB w w') := by
  have HF := Lib.hid fun w' (c : Chg NoB w w') => tabFind_any (h.chg0 c).tab va hv h.rtl
  have hE' : findF s.tst.b s.u.fr s.root va = findF s.u.b s.u.fr s.root va := rfl
  rw [hE'] at HF
  clear hE'
  obtain ⟨⟨⟨⟨v, r, pw, x, u, g, a, d, rsw, ppn⟩, lv, pos⟩, ec⟩, hE⟩ : ∃ q, findF s.u.b s.u.fr s.root va = q := ⟨_, rfl⟩
  rw [hE] at HF ⊢
  simp only [Leaf.out] at HF ⊢
  obtain ⟨b, hb⟩ : ∃ b, (ec == 0) = b := ⟨_, rfl⟩
  rw [hb]
  have HBE := Lib.hid hb
  have hC := (Chg.refl NoB w).alloc (.cells #[.bool false, .bool false, .bool false, .bool false, .bool false, .bool false, .bool false, .bool false, .int .i64 0, .int .u64 0, .int .i64 0, .int .u64 0] 133)
  have HB := Lib.hid (Blk.new w #[.bool false, .bool false, .bool false, .bool false, .bool false, .bool false, .bool false, .bool false, .int .i64 0, .int .u64 0, .int .i64 0, .int .u64 0] 133)
  have HC := Lib.hid hC
  have f5 : ∀ w', Chg NoB w w' → w'.cell? ⟨L.pb, 5, none⟩ = some (.pointer (some ⟨L.tb, 0, none⟩)) := fun w' c => (c.blk0 h.blk).cell' (i := 5) rfl
  have fl : ∀ w', Chg NoB w w' → L.pb < w'.heap.size := fun w' c => (c.blk0 h.blk).lt
  clear h hE hv hC hb
  go_enter Tryz.func60, Tryz.ntmps60
  go_upto_region 1 with fail
  generalize w.alloc (.cells #[.bool false, .bool false, .bool false, .bool false, .bool false, .bool false, .bool false, .bool false, .int .i64 0, .int .u64 0, .int .i64 0, .int .u64 0] 133) = w0 at *
  have fr := HB.out.ever
  have fz := HB.out.everF
  have lr := HB.out.everL
  have c0 := HC.out
  clear HB
  go_wp2_with fail
  with_reducible refine (HF.out _ HC.out).mono ?_
  rintro e w1 ⟨rfl, C1⟩
  have C1' := HC.out.step C1
  have HC1 := Lib.hid C1'
  clear f5 fl c0 C1'
  go_upto_region 4 with fail
  go_wp2_with fail
  refine bodyPost_ret (v := .tuple #[.agg #[.bool v, .bool r, .bool pw, .bool x, .bool u, .bool g, .bool a, .bool d, .int .i64 rsw, .int .u64 ppn, .int .i64 lv, .int .u64 pos], .bool b]) (by simp [results, Tryz.results60, go_sem, fr, lr, C1, HBE.out]) rfl ⟨rfl, ?_⟩
  exact (((((((((((((HC1.out.setCell (.inr (Nat.le_refl _)) _).setCell (.inr (Nat.le_refl _)) _).setCell (.inr (Nat.le_refl _)) _).setCell (.inr (Nat.le_refl _)) _).setCell (.inr (Nat.le_refl _)) _).setCell (.inr (Nat.le_refl _)) _).setCell (.inr (Nat.le_refl _)) _).setCell (.inr (Nat.le_refl _)) _).setCell (.inr (Nat.le_refl _)) _).setCell (.inr (Nat.le_refl _)) _).setCell (.inr (Nat.le_refl _)) _).setCell (.inr (Nat.le_refl _)) _)).alloc _
set_option maxHeartbeats 2000000 in
set_option maxRecDepth 100000 in
theorem bList_none {S : Nat → Prop} {w : World} {bb : Nat} {b : Tlb} (h : TlbAt w S bb b) (hz : ∀ s ∈ b, ∀ e ∈ s, e = Way.zero) :
    Calls Tryz.prog 99 #[.pointer (some ⟨bb, 0, none⟩)] w (RetW (.slice none 0 0) fun w' => Chg NoB w w') := by
  obtain ⟨ob, cap, W, gs, cur, h⟩ := h
  obtain ⟨n, hn'⟩ : ∃ n, b.length = n := ⟨_, rfl⟩
  have HN := Lib.hid hn'
  have HH := Lib.hid h
  have HZ := Lib.hid hz
  have hn2 : n ≤ 64 := by rw [← hn']; exact h.l2
  have hW2 := h.w2
  have b0 : w.cell? ⟨bb, 0, none⟩ = some (.slice (some ⟨ob, 0, none⟩) n cap) := by rw [← hn']; exact h.buf.cell' rfl
  have b1 := h.buf.lt
  clear hn' h hz
  go_enter Tryz.func99, Tryz.ntmps99
  go_wp2_with fail
  clear b0 b1
  go_loopg [15, 3] n (fun k v o wr => ∃ i : Nat, v = .int .i64 i ∧ o = .slice none 0 0 ∧ i ≤ n ∧ k = n - i ∧ Chg NoB w wr)
  case atStart => exact ⟨0, rfl, rfl, by omega, by omega, Chg.refl _ _⟩
  case round =>
    obtain ⟨i, rfl, rfl, hi, hki, hC⟩ := hrel
    have HK := Lib.hid hki
    have HC := Lib.hid hC
    clear hki hC
    by_cases hlt : i < n
    · have t1 : decide (i < n) = true := decide_eq_true hlt
      obtain ⟨s, hs⟩ : ∃ s, b[i]? = some s := ⟨b[i]'(by rw [HN.out]; exact hlt), List.getElem?_eq_getElem _⟩
      obtain ⟨hrow, hsl, -, -⟩ := HH.out.rows _ _ hs
      have HSZ := Lib.hid (HZ.out s (List.mem_of_getElem? hs))
      have HSl := Lib.hid hsl
      have o1 := (HC.out.blk0 HH.out.out).cell' (HH.out.sl i (by rw [HN.out]; exact hlt))
      have o2 := (HC.out.blk0 HH.out.out).lt
      obtain ⟨G, hG⟩ : ∃ G, gs i = G := ⟨_, rfl⟩
      rw [hG] at o1 hrow
      have HRow := Lib.hid hrow
      have lG := hrow.everL
      clear hs hsl hG hrow
      go_wp2_with fail
      clear o1 o2
      go_loopg [22, 3] W (fun q v o wr => ∃ k : Nat, v = .int .i64 k ∧ o = .slice none 0 0 ∧ k ≤ W ∧ q = W - k ∧ Chg NoB w wr)
      case atStart => exact ⟨0, rfl, rfl, by omega, by omega, HC.out⟩
      case round =>
        obtain ⟨k, rfl, rfl, hk, hq, hC2⟩ := hrel
        have HQ := Lib.hid hq
        have HC2 := Lib.hid hC2
        clear hq hC2
        by_cases hkl : k < W
        · have t2 : decide (k < W) = true := decide_eq_true hkl
          have hks : k < s.length := by rw [HSl.out]; exact hkl
          have he : s[k]? = some Way.zero := by rw [List.getElem?_eq_getElem hks, HSZ.out _ (List.getElem_mem hks)]
          have hc : ∀ j, j < 15 → ∀ w', Chg NoB w w' → w'.cell? ⟨G, k * 15 + j, none⟩ = Way.zero.cs[j]? := fun j hj w' c => by
            rw [((c.blk0 HRow.out).cell (k * 15 + j)), List.getElem?_toArray, Nat.mul_comm, wcells_get he hj]
          have g0 : ∀ w', Chg NoB w w' → w'.cell? ⟨G, k * 15, none⟩ = some (.bool false) := fun w' c => hc 0 (by omega) w' c
          have g1 : ∀ w', Chg NoB w w' → w'.cell? ⟨G, k * 15 + 1, none⟩ = some (.int .i64 0) := fun w' c => hc 1 (by omega) w' c
          have g2 : ∀ w', Chg NoB w w' → w'.cell? ⟨G, k * 15 + 2, none⟩ = some (.int .u64 0) := fun w' c => hc 2 (by omega) w' c
          have g3 : ∀ w', Chg NoB w w' → w'.cell? ⟨G, k * 15 + 3, none⟩ = some (.bool false) := fun w' c => hc 3 (by omega) w' c
          have g4 : ∀ w', Chg NoB w w' → w'.cell? ⟨G, k * 15 + 4, none⟩ = some (.bool false) := fun w' c => hc 4 (by omega) w' c
          have g5 : ∀ w', Chg NoB w w' → w'.cell? ⟨G, k * 15 + 5, none⟩ = some (.bool false) := fun w' c => hc 5 (by omega) w' c
          have g6 : ∀ w', Chg NoB w w' → w'.cell? ⟨G, k * 15 + 6, none⟩ = some (.bool false) := fun w' c => hc 6 (by omega) w' c
          have g7 : ∀ w', Chg NoB w w' → w'.cell? ⟨G, k * 15 + 7, none⟩ = some (.bool false) := fun w' c => hc 7 (by omega) w' c
          have g8 : ∀ w', Chg NoB w w' → w'.cell? ⟨G, k * 15 + 8, none⟩ = some (.bool false) := fun w' c => hc 8 (by omega) w' c
          have g9 : ∀ w', Chg NoB w w' → w'.cell? ⟨G, k * 15 + 9, none⟩ = some (.bool false) := fun w' c => hc 9 (by omega) w' c
          have g10 : ∀ w', Chg NoB w w' → w'.cell? ⟨G, k * 15 + 10, none⟩ = some (.bool false) := fun w' c => hc 10 (by omega) w' c
          have g11 : ∀ w', Chg NoB w w' → w'.cell? ⟨G, k * 15 + 11, none⟩ = some (.int .i64 0) := fun w' c => hc 11 (by omega) w' c
          have g12 : ∀ w', Chg NoB w w' → w'.cell? ⟨G, k * 15 + 12, none⟩ = some (.int .u64 0) := fun w' c => hc 12 (by omega) w' c
          have g13 : ∀ w', Chg NoB w w' → w'.cell? ⟨G, k * 15 + 13, none⟩ = some (.int .i64 0) := fun w' c => hc 13 (by omega) w' c
          have g14 : ∀ w', Chg NoB w w' → w'.cell? ⟨G, k * 15 + 14, none⟩ = some (.int .u64 0) := fun w' c => hc 14 (by omega) w' c
          have c2 := HC2.out
          have HC3 := Lib.hid (c2.alloc (.cells #[.bool false, .int .i64 0, .int .u64 0, .bool false, .bool false, .bool false, .bool false, .bool false, .bool false, .bool false, .bool false, .int .i64 0, .int .u64 0, .int .i64 0, .int .u64 0] 275))
          clear hc he hks
          go_wp2_with fail
          go_roundg (W - (k + 1))
          case rel => exact ⟨k + 1, by go_num, rfl, by omega, rfl, HC3.out⟩
          case measure => rw [HQ.out]; omega
        · have t2 : decide (k < W) = false := decide_eq_false hkl
          go_wp2_with fail
          go_roundg (n - (i + 1))
          case rel => exact ⟨i + 1, by go_num, rfl, by omega, rfl, HC2.out⟩
          case measure => rw [HK.out]; omega
    · have t1 : decide (i < n) = false := decide_eq_false hlt
      go_wp2_with fail
      go_ret
      exact ⟨rfl, HC.out⟩
end Go.Proofs.YtleilfkcjollaaaGreat
set_option linter.unusedVariables false
set_option linter.unusedSimpArgs false
namespace Go.Proofs.YtleilfkcjollaaaGreat
open Go.RowKit Go.RR
theorem SpAt.bdd {w : World} {L : Pl} {s : Spc} (h : SpAt w L s) : ∀ k, L.All k → k < w.heap.size := fun k hk => hk.elim (fun e => (h.ap.nm k e).1) (h.ap.bd k)
set_option maxHeartbeats 1000000 in
set_option maxRecDepth 100000 in
theorem sNeed_any (p : Int) (hp : p = 1 ∨ p = 2) (w : World) : Calls Tryz.prog 84 #[.agg #[.int .i64 1, .int .i64 1, .int .i64 p]] w (RetW (.int .i64 (7 + p)) fun w' => Chg NoB w w') := by
  have HR := Lib.hid fun w' => shapeRight_any ⟨1, 1, p⟩ w'
  have t1 : (⟨1, 1, p⟩ : Shp).ok = true := by rcases hp with rfl | rfl <;> rfl
  rw [t1] at HR
  clear t1
  have k0 : Chg NoB w (w.alloc (.cells #[.int .i64 1, .int .i64 1, .int .i64 p] 112)) := (Chg.refl NoB w).alloc _
  have hB := Lib.hid (Blk.new w #[.int .i64 1, .int .i64 1, .int .i64 p] 112)
  have K0 := Lib.hid k0
  clear k0
  rcases hp with rfl | rfl
  all_goals
    go_enter Tryz.func84, Tryz.ntmps84
    go_wp2_with fail
    refine (HR.out _).mono ?_
    rintro e w1 ⟨rfl, C1⟩
    have hB := C1.blk0 hB.out
    have g := hB.cell
    have gl := hB.lt
    have HC := Lib.hid (K0.out.step C1)
    clear hB C1 HR
    go_wp2_with fail
    go_ret
    exact ⟨rfl, HC.out⟩
set_option maxHeartbeats 2000000 in
set_option maxRecDepth 100000 in
theorem homeNew_any {w : World} {L : Pl} {s : Spc} (h : SpAt w L s) (me n : Nat) (p : Int) (hp : p = 1 ∨ p = 2) (hn : 2 ≤ n) (hn2 : n ≤ 16) (hm : me < n) (hfr : 7 + p ≤ s.u.fr) :
    Calls Tryz.prog 87 #[.int .i64 me, .int .i64 n, .pointer (some ⟨L.pb, 0, none⟩), .agg #[.int .i64 1, .int .i64 1, .int .i64 p]] w
      (RetV fun v w' => ∃ hb mb, v = .tuple #[.pointer (some ⟨hb, 0, none⟩), .int .i64 0] ∧ w.heap.size ≤ hb ∧ w.heap.size ≤ mb ∧ HmAt w' ⟨hb, mb, L.pb, me, n, 1, 1, p⟩ [] ∧ Chg NoB w w') := by
  have HS := Lib.hid fun w' => sNeed_any p hp w'
  have HF := Lib.hid fun w' (c : Chg NoB w w') => sFrames_any (h.chg0 c)
  obtain ⟨fr, hfr'⟩ : ∃ k, s.u.fr = k := ⟨_, rfl⟩
  rw [hfr'] at hfr HF
  have hm2 : (me : Int) < 16 := by omega
  have t1 : decide ((n : Int) < 2) = false := decide_eq_false (by omega)
  have t2 : decide ((16 : Int) < n) = false := decide_eq_false (by omega)
  have t3 : decide ((me : Int) < 0) = false := decide_eq_false (by omega)
  have t4 : decide ((n : Int) ≤ me) = false := decide_eq_false (by omega)
  have t5 : decide ((fr : Int) < 7 + p) = false := decide_eq_false (by omega)
  have q2 : decide (n < 2) = false := decide_eq_false (by omega)
  have q3 : decide (16 < n) = false := decide_eq_false (by omega)
  have q4 : decide (n ≤ me) = false := decide_eq_false (by omega)
  have hB := Lib.hid (Blk.new w #[.int .i64 1, .int .i64 1, .int .i64 p] 112)
  have hC := Lib.hid ((Chg.refl NoB w).alloc (.cells #[.int .i64 1, .int .i64 1, .int .i64 p] 112))
  have hmm := @run_makeMap Tryz.prog
  clear h hfr hfr' hp hn hn2 hm
  go_enter Tryz.func87, Tryz.ntmps87
  go_upto_region 1 with fail
  generalize w.alloc (.cells #[.int .i64 1, .int .i64 1, .int .i64 p] 112) = w0 at *
  have g := hB.out.ever
  have gl := hB.out.everL
  have HF0 := Lib.hid fun w' (c : Chg NoB w0 w') => HF.out w' (hC.out.step c)
  have c0 := Chg.refl NoB w0
  clear hmm
  go_upto_region 5 with fail
  go_region_held3 (fun w' => Chg NoB w0 w') ((repeat (first | with_reducible assumption | with_reducible apply Chg.drew | with_reducible apply Chg.drewN | with_reducible apply Chg.alloc))) (first | (go_at_call 128; (with_reducible refine (HF0.out _ (by with_reducible assumption)).mono ?_); rintro e w9 ⟨rfl, hw⟩; subst hw) | (go_at_call 84; (with_reducible refine (HS.out _).mono ?_); rintro e w9 ⟨rfl, hC'⟩; have c9 := Chg.step (by with_reducible assumption : Chg NoB w0 _) hC'; clear hC'))
  rename_i w9 c9 _
  have HC9 := Lib.hid (hC.out.step c9)
  have hmm := @run_makeMap Tryz.prog
  go_wp2_with fail
  go_ret2
  have hz := HC9.out.size
  have hm1 : (w9.alloc (.map #[] 0)).heap[w9.heap.size]? = some (.map #[] 0) := at_top rfl
  have hB1 := Blk.new (w9.alloc (.map #[] 0)) #[.int .i64 me, .int .i64 n, .pointer (some ⟨L.pb, 0, none⟩), .int .i64 1, .int .i64 1, .int .i64 p, .map (some w9.heap.size)] 153
  rw [World.size_alloc] at hB1
  exact ⟨_, rfl, _, _, rfl, by omega, hz, ⟨hB1, MapAt.ofNew (at_alloc _ hm1), (fun p hp => by cases hp), ⟨_, _, at_alloc _ hm1, MapKept.stamped_empty _⟩, (fun p hp => by cases hp)⟩, (HC9.out.alloc _).alloc _⟩
end Go.Proofs.YtleilfkcjollaaaGreat
set_option linter.unusedVariables false
set_option linter.unusedSimpArgs false
namespace Go.Proofs.YtleilfkcjollaaaGreat
open Go.RowKit Go.RR
/-- A link at rest. -/
def LinkAt (w : World) (S : Nat → Prop) (v : Value) : Prop := ∃ lb sb rb, v = .pointer (some ⟨lb, 0, none⟩) ∧ S lb ∧ S sb ∧ Blk w lb #[.pointer (some ⟨sb, 0, none⟩), .pointer (some ⟨rb, 0, none⟩), .bool false] 190 ∧ Blk w sb sdC 240 ∧ RvAt w S rb
theorem LinkAt.chg {w w' : World} {S S' : Nat → Prop} {v : Value} (h : LinkAt w S v) (c : Chg S' w w') (hs : ∀ k, S k → ¬ S' k) : LinkAt w' S v := by
  obtain ⟨lb, sb, rb, e, h1, h2, b1, b2, b3⟩ := h
  exact ⟨lb, sb, rb, e, h1, h2, c.blk b1 (hs _ h1), c.blk b2 (hs _ h2), b3.chg c hs⟩
theorem LinkAt.mono {w : World} {S S' : Nat → Prop} {v : Value} (h : LinkAt w S v) (hs : ∀ k, k < w.heap.size → S k → S' k) : LinkAt w S' v := by
  obtain ⟨lb, sb, rb, e, h1, h2, b1, b2, b3⟩ := h
  exact ⟨lb, sb, rb, e, hs _ b1.lt h1, hs _ b2.lt h2, b1, b2, b3.mono hs⟩
/-- The links of a node's first i others. -/
def LksAt (w : World) (S : Nat → Prop) (me i : Nat) (cs : List Value) : Prop := ∀ j, j < i → ∃ v, cs[j]? = some v ∧ (j = me → v = .pointer none) ∧ (j ≠ me → LinkAt w S v)
theorem LksAt.chg {w w' : World} {S S' : Nat → Prop} {me i : Nat} {cs : List Value} (h : LksAt w S me i cs) (c : Chg S' w w') (hs : ∀ k, S k → ¬ S' k) : LksAt w' S me i cs := fun j hj => by
  obtain ⟨v, h1, h2, h3⟩ := h j hj
  exact ⟨v, h1, h2, fun e => (h3 e).chg c hs⟩
theorem LksAt.mono {w : World} {S S' : Nat → Prop} {me i : Nat} {cs : List Value} (h : LksAt w S me i cs) (hs : ∀ k, k < w.heap.size → S k → S' k) : LksAt w S' me i cs := fun j hj => by
  obtain ⟨v, h1, h2, h3⟩ := h j hj
  exact ⟨v, h1, h2, fun e => (h3 e).mono hs⟩
/-- A node's shell at rest: its block, its links. -/
structure NdAt (w : World) (S : Nat → Prop) (nb pb hb cb n me : Nat) : Prop where
  s : S nb
  ex : ∃ v cs, Blk w nb #[.int .i64 me, .pointer (some ⟨pb, 0, none⟩), .pointer (some ⟨hb, 0, none⟩), .pointer (some ⟨cb, 0, none⟩), v, .int .i64 (-1)] 110 ∧ Sl w S 1 v n cs ∧ LksAt w S me n cs
theorem NdAt.chg {w w' : World} {S S' : Nat → Prop} {nb pb hb cb n me : Nat} (h : NdAt w S nb pb hb cb n me) (c : Chg S' w w') (hs : ∀ k, S k → ¬ S' k) : NdAt w' S nb pb hb cb n me := by
  obtain ⟨v, cs, h1, h2, h3⟩ := h.ex
  exact ⟨h.s, v, cs, c.blk h1 (hs _ h.s), h2.chg c hs, h3.chg c hs⟩
theorem NdAt.mono {w : World} {S S' : Nat → Prop} {nb pb hb cb n me : Nat} (h : NdAt w S nb pb hb cb n me) (hs : ∀ k, k < w.heap.size → S k → S' k) : NdAt w S' nb pb hb cb n me := by
  obtain ⟨v, cs, h1, h2, h3⟩ := h.ex
  exact ⟨hs _ h1.lt h.s, v, cs, h1, h2.monoIn hs, h3.mono hs⟩
theorem LINKPi : (Tryz.prog.info? 188).map (fun i => (i.zero, i.size, i.bytes)) = some (some (.pointer none), 1, 8) := by kernel_rfl
set_option maxHeartbeats 1000000 in
set_option maxRecDepth 100000 in
/-- A link to a node: none to oneself. -/
theorem ndLink_any {w : World} {S : Nat → Prop} {nb pb hb cb n me : Nat} (h : NdAt w S nb pb hb cb n me) (o : Nat) (ho : o < n) (hn : n ≤ 16) :
    Calls Tryz.prog 101 #[.pointer (some ⟨nb, 0, none⟩), .int .i64 o] w (RetV fun v w' => (o = me → v = .pointer none) ∧ (o ≠ me → LinkAt w S v) ∧ w' = w) := by
  obtain ⟨lv, cs, h1, h2, h3⟩ := h.ex
  obtain ⟨x, hx, hx2⟩ := h3 o ho
  have HX := Lib.hid hx2
  obtain ⟨-, p, c, rfl, hnc, hr⟩ := h2
  obtain ⟨g, off, rfl, -, hg, hc⟩ := hr (by omega)
  have f4 := h1.cell' (i := 4) (v := .slice (some ⟨g, off, none⟩) n c) rfl
  have fl := h1.lt
  have fx := hc o x hx
  have HB := Lib.hid (between_any o 0 ((n : Int) - 1))
  rw [decide_eq_true (show (0 : Int) ≤ o by omega), decide_eq_true (show (o : Int) ≤ (n : Int) - 1 by omega)] at HB
  clear h h1 h3 hx hx2 hr hc
  go_enter Tryz.func101, Tryz.ntmps101
  go_wp2_with fail
  refine (HB.out _).mono ?_
  rintro e w1 ⟨rfl, hw⟩
  subst hw
  go_wp2_with fail
  go_ret
  exact ⟨_, rfl, HX.out.1, HX.out.2, rfl⟩
set_option maxHeartbeats 1000000 in
set_option maxRecDepth 100000 in
/-- What stands in a link at rest: nothing. -/
theorem ndLinks_any {w : World} {S : Nat → Prop} {nb pb hb cb n me : Nat} (h : NdAt w S nb pb hb cb n me) (o : Nat) (ho : o < n) (hn : n ≤ 16) :
    Calls Tryz.prog 67 #[.pointer (some ⟨nb, 0, none⟩), .int .i64 o] w (RetW (.tuple #[.int .i64 0, .int .i64 0, .int .i64 0]) fun w' => Chg NoB w w') := by
  have HL := Lib.hid (ndLink_any h o ho hn)
  clear h ho hn
  by_cases e : o = me
  · have HE0 := Lib.hid e
    clear e
    go_enter Tryz.func67, Tryz.ntmps67
    go_wp2_with fail
    refine HL.out.mono ?_
    rintro e w1 ⟨v, rfl, h1, -, hw⟩
    subst hw
    obtain rfl := h1 HE0.out
    go_wp2_with fail
    go_ret3
    exact ⟨rfl, Chg.refl _ _⟩
  · have HE0 := Lib.hid e
    clear e
    go_enter Tryz.func67, Tryz.ntmps67
    go_wp2_with fail
    refine HL.out.mono ?_
    rintro e' w1 ⟨v, rfl, -, h2, hw⟩
    subst hw
    obtain ⟨lb, sb, rb, rfl, h1, h2, b1, b2, b3⟩ := h2 HE0.out
    have f0 : ∀ w', Chg NoB w1 w' → w'.cell? ⟨lb, 0, none⟩ = some (.pointer (some ⟨sb, 0, none⟩)) := fun w' c => (c.blk0 b1).cell' (i := 0) rfl
    have f1 : ∀ w', Chg NoB w1 w' → w'.cell? ⟨lb, 1, none⟩ = some (.pointer (some ⟨rb, 0, none⟩)) := fun w' c => (c.blk0 b1).cell' (i := 1) rfl
    have fl : ∀ w', Chg NoB w1 w' → lb < w'.heap.size := fun w' c => (c.blk0 b1).lt
    have HA := Lib.hid fun w' (c : Chg NoB w1 w') => line_any (c.blk0 b2)
    have HF := Lib.hid fun w' (c : Chg NoB w1 w') => flight_any (c.blk0 b2)
    have HE := Lib.hid fun w' (c : Chg NoB w1 w') => early_any (b3.chg0 c)
    have c0 := Chg.refl NoB w1
    clear HL b1 b2 b3 h1 h2
    go_upto_region 4 with fail
    go_region_held3 (fun w' => Chg NoB w1 w') ((repeat (first | with_reducible assumption | with_reducible apply Chg.drew | with_reducible apply Chg.drewN | with_reducible apply Chg.alloc))) (first | (go_at_call 102; (with_reducible refine (HA.out _ (by with_reducible assumption)).mono ?_); rintro e w9 ⟨rfl, hw⟩; subst hw) | (go_at_call 103; (with_reducible refine (HF.out _ (by with_reducible assumption)).mono ?_); rintro e w9 ⟨rfl, hw⟩; subst hw) | (go_at_call 104; (with_reducible refine (HE.out _ (by with_reducible assumption)).mono ?_); rintro e w9 ⟨rfl, hw⟩; subst hw))
    all_goals
      go_wp2_with fail
      go_ret3
      exact ⟨rfl, by with_reducible assumption⟩
end Go.Proofs.YtleilfkcjollaaaGreat
