/- The buffer of entries: pages' numbers, ways that serve. No condition. Rights: what an access needs, the causes of faults, flags of a text. No condition. The buffer of entries in memory; finding in it. No condition. -/
import Derived.Test.YtleilfkcjollaaaGreatGh
import Derived.Test.YtleilfkcjollaaaGreatGe
import Derived.Test.YtleilfkcjollaaaGreatGa
set_option linter.unusedVariables false
set_option linter.unusedSimpArgs false
namespace Go.RR
theorem Blk.ever {w : World} {b : Nat} {cs : Array Value} {T : TypeId} (h : Blk w b cs T) : ∀ w', Chg NoB w w' → ∀ i, w'.cell? ⟨b, i, none⟩ = cs[i]? := fun w' c i => (c.blk0 h).cell i
theorem Blk.everF {w : World} {b : Nat} {cs : Array Value} {T : TypeId} (h : Blk w b cs T) : ∀ w', Chg NoB w w' → ∀ i, w'.frozen? ⟨b, i, none⟩ = false := fun w' c i => (c.blk0 h).frozen i
theorem Blk.everL {w : World} {b : Nat} {cs : Array Value} {T : TypeId} (h : Blk w b cs T) : ∀ w', Chg NoB w w' → b < w'.heap.size := fun w' c => (c.blk0 h).lt
theorem Chg.reads {w w' : World} (c : Chg NoB w w') : ∀ b i, b < w.heap.size → w'.cell? ⟨b, i, none⟩ = w.cell? ⟨b, i, none⟩ := fun b i h => World.cell?_of_block (c.block b h id)
theorem nat_beq (a b : Nat) : ((a : Int) == (b : Int)) = decide (a = b) := by rw [Bool.eq_iff_iff, beq_iff_eq, decide_eq_true_iff]; omega
end Go.RR
namespace Go.Proofs.YtleilfkcjollaaaGreat
open Go.RowKit Go.RR
def Way.cs (w : Way) : List Value := [.bool w.full, .int .i64 w.asid, .int .u64 w.page, .bool w.leaf.p.v, .bool w.leaf.p.r, .bool w.leaf.p.w, .bool w.leaf.p.x, .bool w.leaf.p.u, .bool w.leaf.p.g, .bool w.leaf.p.a, .bool w.leaf.p.d, .int .i64 w.leaf.p.rsw, .int .u64 w.leaf.p.ppn, .int .i64 w.leaf.level, .int .u64 w.leaf.pos]
set_option maxRecDepth 100000 in
theorem tlbPage_any (va : Nat) (l : Int) (w : World) (hv : va < 18446744073709551616) (hl : levelB l = true) : Calls Tryz.prog 188 #[.int .u64 va, .int .i64 l] w (RetW (.int .u64 (pageOf va l)) fun w' => w' = w) := by
  have HV := Lib.hid fun w' => vpn_any va w' hv
  have hp : Hid (∀ k : Nat, ((vpn va / 2 ^ k : Nat) : Int) = (vpn va : Int) / 2 ^ k) := Lib.hid fun k => by rw [Int.natCast_ediv]; simp
  have hu : Hid (pageOf va l = vpn va / 2 ^ (9 * l.toNat)) := Lib.hid rfl
  rw [hu.out]
  obtain ⟨v, hvv⟩ : ∃ v, vpn va = v := ⟨_, rfl⟩
  rw [hvv] at HV hp ⊢
  clear hvv hu
  rcases level_cases l with rfl | rfl | rfl | h
  · go_enter Tryz.func188, Tryz.ntmps188
    go_wp2_with fail
    with_reducible refine (HV.out _).mono ?_
    rintro e w1 ⟨rfl, hw1⟩
    subst hw1
    go_wp2_with fail
    go_ret
    exact ⟨by simp, rfl⟩
  · go_enter Tryz.func188, Tryz.ntmps188
    go_wp2_with fail
    with_reducible refine (HV.out _).mono ?_
    rintro e w1 ⟨rfl, hw1⟩
    subst hw1
    go_wp2_with fail
    go_ret
    exact ⟨congrArg (fun z : Int => Ending.returned (Value.int .u64 z)) (hp.out 9).symm, rfl⟩
  · go_enter Tryz.func188, Tryz.ntmps188
    go_wp2_with fail
    with_reducible refine (HV.out _).mono ?_
    rintro e w1 ⟨rfl, hw1⟩
    subst hw1
    go_wp2_with fail
    go_ret
    exact ⟨congrArg (fun z : Int => Ending.returned (Value.int .u64 z)) (hp.out 18).symm, rfl⟩
  · rw [hl] at h; cases h
set_option maxRecDepth 100000 in
theorem wayHas_any (e : Way) (va : Nat) (w : World) (hv : va < 18446744073709551616) (hl : levelB e.leaf.level = true) : Calls Tryz.prog 160 #[.agg #[.bool e.full, .int .i64 e.asid, .int .u64 e.page, .bool e.leaf.p.v, .bool e.leaf.p.r, .bool e.leaf.p.w, .bool e.leaf.p.x, .bool e.leaf.p.u, .bool e.leaf.p.g, .bool e.leaf.p.a, .bool e.leaf.p.d, .int .i64 e.leaf.p.rsw, .int .u64 e.leaf.p.ppn, .int .i64 e.leaf.level, .int .u64 e.leaf.pos], .int .u64 va] w (RetW (.bool (e.has va)) fun w' => Chg NoB w w') := by
  have HP := Lib.hid fun w' => tlbPage_any va e.leaf.level w' hv hl
  obtain ⟨full, asid, pg, ⟨v, r, pw, x, u, g, a, d, rsw, ppn⟩, level, pos⟩ := e
  obtain ⟨P, hP⟩ : ∃ P, pageOf va level = P := ⟨_, rfl⟩
  rw [show (Way.mk full asid pg ⟨⟨v, r, pw, x, u, g, a, d, rsw, ppn⟩, level, pos⟩).has va = (full && decide (pg = P)) from by rw [← hP]; rfl]
  dsimp only at HP hl
  rw [hP] at HP
  have HC := Lib.hid (Chg.refl NoB w)
  clear hP hl
  cases full
  all_goals
    go_enter Tryz.func160, Tryz.ntmps160
    go_upto_region 1 with fail
    go_quiet ((go_at_call 188; exact Calls.quiet_of_same (HP.out _)))
    go_wp2_with fail
    go_ret
    first
      | exact ⟨rfl, (HC.out.alloc _).drewN _⟩
      | exact ⟨ret_bool (by simp [nat_beq]), (HC.out.alloc _).drewN _⟩
end Go.Proofs.YtleilfkcjollaaaGreat
set_option linter.unusedVariables false
set_option linter.unusedSimpArgs false
namespace Go.Proofs.YtleilfkcjollaaaGreat
open Go.RowKit Go.RR
def UMode : Mode := ⟨true, false, false⟩
end Go.Proofs.YtleilfkcjollaaaGreat
set_option linter.unusedVariables false
set_option linter.unusedSimpArgs false
namespace Go.Proofs.YtleilfkcjollaaaGreat
open Go.RowKit Go.RR
/-- Ways as cells. -/
def wcells (l : List Way) : List Value := l.flatMap Way.cs
theorem wcells_len (l : List Way) : (wcells l).length = l.length * 15 := by
  induction l with
  | nil => rfl
  | cons x l ih => show (x.cs ++ wcells l).length = _; rw [List.length_append, ih, List.length_cons]; show 15 + _ = _; omega
theorem wcells_get {l : List Way} {k j : Nat} {e : Way} (h : l[k]? = some e) (hj : j < 15) : (wcells l)[15 * k + j]? = e.cs[j]? := by
  induction l generalizing k with
  | nil => simp at h
  | cons x l ih =>
    show (x.cs ++ wcells l)[15 * k + j]? = _
    cases k with
    | zero =>
      simp at h
      subst h
      rw [List.getElem?_append_left (by show _ < 15; omega)]
      simp
    | succ k =>
      rw [List.getElem?_append_right (by show 15 ≤ _; omega)]
      rw [show 15 * (k + 1) + j - x.cs.length = 15 * k + j by show _ - 15 = _; omega]
      exact ih (by simpa using h)
/-- A way that may stand in a buffer. -/
structure Way.Ok (e : Way) : Prop where
  lv : levelB e.leaf.level = true
  p : e.leaf.p.Ok
  pos : e.leaf.pos < 18446744073709551616
  page : e.page < 18446744073709551616
theorem Way.zero_ok : Way.zero.Ok := ⟨rfl, ⟨by decide, by decide, by decide⟩, by decide, by decide⟩
structure TlbIn (w : World) (S : Nat → Prop) (bb ob cap W : Nat) (gs : Nat → Nat) (cur : Array Value) (b : Tlb) : Prop where
  buf : Blk w bb #[.slice (some ⟨ob, 0, none⟩) b.length cap] 272
  out : Blk w ob cur 273
  cp : b.length ≤ cap
  sl : ∀ i, i < b.length → cur[i]? = some (.slice (some ⟨gs i, 0, none⟩) W W)
  rows : ∀ i l, b[i]? = some l → Blk w (gs i) (wcells l).toArray 275 ∧ l.length = W ∧ S (gs i) ∧ ∀ e ∈ l, e.Ok
  inj : ∀ i j, i < b.length → j < b.length → gs i = gs j → i = j
  n1 : ∀ i, i < b.length → gs i ≠ bb ∧ gs i ≠ ob
  n2 : bb ≠ ob
  s1 : S bb
  s2 : S ob
  l1 : 1 ≤ b.length
  l2 : b.length ≤ 64
  w1 : 1 ≤ W
  w2 : W ≤ 8
def TlbAt (w : World) (S : Nat → Prop) (bb : Nat) (b : Tlb) : Prop := ∃ ob cap W gs cur, TlbIn w S bb ob cap W gs cur b
theorem TlbAt.chg {w w' : World} {S S' : Nat → Prop} {bb : Nat} {b : Tlb} (h : TlbAt w S bb b) (c : Chg S' w w') (hs : ∀ k, S k → ¬ S' k) : TlbAt w' S bb b := by
  obtain ⟨ob, cap, W, gs, cur, h⟩ := h
  exact ⟨ob, cap, W, gs, cur, c.blk h.buf (hs _ h.s1), c.blk h.out (hs _ h.s2), h.cp, h.sl, fun i l hi => by obtain ⟨h1, h2, h3, h4⟩ := h.rows i l hi; exact ⟨c.blk h1 (hs _ h3), h2, h3, h4⟩, h.inj, h.n1, h.n2, h.s1, h.s2, h.l1, h.l2, h.w1, h.w2⟩
theorem TlbIn.chg0 {w w' : World} {S : Nat → Prop} {bb ob cap W : Nat} {gs : Nat → Nat} {cur : Array Value} {b : Tlb} (h : TlbIn w S bb ob cap W gs cur b) (c : Chg NoB w w') : TlbIn w' S bb ob cap W gs cur b :=
  ⟨c.blk0 h.buf, c.blk0 h.out, h.cp, h.sl, fun i l hi => by obtain ⟨h1, h2, h3, h4⟩ := h.rows i l hi; exact ⟨c.blk0 h1, h2, h3, h4⟩, h.inj, h.n1, h.n2, h.s1, h.s2, h.l1, h.l2, h.w1, h.w2⟩
theorem TlbAt.chg0 {w w' : World} {S : Nat → Prop} {bb : Nat} {b : Tlb} (h : TlbAt w S bb b) (c : Chg NoB w w') : TlbAt w' S bb b := h.chg c fun _ _ => id
theorem TlbAt.mono {w : World} {S S' : Nat → Prop} {bb : Nat} {b : Tlb} (h : TlbAt w S bb b) (hs : ∀ k, k < w.heap.size → S k → S' k) : TlbAt w S' bb b := by
  obtain ⟨ob, cap, W, gs, cur, h⟩ := h
  exact ⟨ob, cap, W, gs, cur, h.buf, h.out, h.cp, h.sl, fun i l hi => by obtain ⟨h1, h2, h3, h4⟩ := h.rows i l hi; exact ⟨h1, h2, hs _ h1.lt h3, h4⟩, h.inj, h.n1, h.n2, hs _ h.buf.lt h.s1, hs _ h.out.lt h.s2, h.l1, h.l2, h.w1, h.w2⟩
end Go.Proofs.YtleilfkcjollaaaGreat
